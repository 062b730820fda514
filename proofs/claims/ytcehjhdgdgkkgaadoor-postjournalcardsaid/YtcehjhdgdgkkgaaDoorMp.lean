/- Maps: what their entries are, as a function of the keys; what is written, taken out and gone through. -/
import Derived.Test.YtcehjhdgdgkkgaaDoorSb
namespace Go.Rx
open Go.Proofs
set_option linter.unusedSimpArgs false
set_option linter.unusedVariables false
set_option linter.unusedSectionVars false

class MKey (κ : Type) where
  e : κ → SV
  dec : DecidableEq κ
  eq : ∀ a b, keyEq (e a) (e b) = decide (a = b)
class MVal (α : Type) where
  e : α → SV
instance : MKey (List UInt8) := ⟨SV.str, inferInstance, fun _ _ => rfl⟩
instance : MKey Int := ⟨SV.int .i64, inferInstance, fun _ _ => rfl⟩
instance : MVal Int := ⟨SV.int .i64⟩
instance : MVal Bool := ⟨fun b => match b with | true => .tt | false => .ff⟩
section
variable {κ α : Type} [MKey κ] [MVal α]
instance : DecidableEq κ := MKey.dec
def mV (x : κ × α × Nat) : SV := .agg [MKey.e x.1, MVal.e x.2.1, .int .i64 (x.2.2 : Int)]
def tGet : List (κ × α × Nat) → κ → Option α
  | [], _ => none
  | x :: r, k => if k = x.1 then some x.2.1 else tGet r k
def tMod : List (κ × α × Nat) → κ → α → List (κ × α × Nat)
  | [], _, _ => []
  | x :: r, k, v => if k = x.1 then (x.1, v, x.2.2) :: r else x :: tMod r k v
def tDel : List (κ × α × Nat) → κ → List (κ × α × Nat)
  | [], _ => []
  | x :: r, k => if k = x.1 then r else x :: tDel r k
def tAt : List (κ × α × Nat) → Nat → Option (κ × α × Nat)
  | [], _ => none
  | x :: r, n => if x.2.2 = n then some x else tAt r n
def tSet : List (κ × α × Nat) → Nat → α → List (κ × α × Nat)
  | [], _, _ => []
  | x :: r, n, v => if x.2.2 = n then (x.1, v, x.2.2) :: r else x :: tSet r n v
theorem mpGet_map (k : κ) : ∀ tl : List (κ × α × Nat), mpGet (tl.map mV) (MKey.e k) = (tGet tl k).map MVal.e
  | [] => rfl
  | x :: r => by
    show (match keyEq (MKey.e k) (MKey.e x.1) with
      | true => some (MVal.e x.2.1)
      | false => mpGet (r.map mV) (MKey.e k)) = _
    rw [MKey.eq, mpGet_map k r]
    rw [tGet]
    by_cases h : k = x.1 <;> simp [h]
theorem mpMod_map (k : κ) (v : α) : ∀ tl : List (κ × α × Nat), mpMod (tl.map mV) (MKey.e k) (MVal.e v) = (tMod tl k v).map mV
  | [] => rfl
  | x :: r => by
    show (match keyEq (MKey.e k) (MKey.e x.1) with
      | true => SV.agg [MKey.e x.1, MVal.e v, .int .i64 (x.2.2 : Int)] :: r.map mV
      | false => mV x :: mpMod (r.map mV) (MKey.e k) (MVal.e v)) = _
    rw [MKey.eq, mpMod_map k v r]
    rw [tMod]
    by_cases h : k = x.1 <;> simp [h, mV]
theorem mpDel_map (k : κ) : ∀ tl : List (κ × α × Nat), mpDel (tl.map mV) (MKey.e k) = (tDel tl k).map mV
  | [] => rfl
  | x :: r => by
    show (match keyEq (MKey.e k) (MKey.e x.1) with
      | true => r.map mV
      | false => mV x :: mpDel (r.map mV) (MKey.e k)) = _
    rw [MKey.eq, mpDel_map k r]
    rw [tDel]
    by_cases h : k = x.1 <;> simp [h]
theorem mpAt_map (n : Nat) : ∀ tl : List (κ × α × Nat), mpAt (tl.map mV) n = (tAt tl n).map mV
  | [] => rfl
  | x :: r => by
    show (match Nat.beq ((x.2.2 : Int)).toNat n with
      | true => some (mV x)
      | false => mpAt (r.map mV) n) = _
    rw [Int.toNat_natCast, beqN, mpAt_map n r]
    rw [tAt]
    by_cases h : x.2.2 = n <;> simp [h]
theorem mpSet_map (n : Nat) (v : α) : ∀ tl : List (κ × α × Nat), mpSet (tl.map mV) n (MVal.e v) = (tSet tl n v).map mV
  | [] => rfl
  | x :: r => by
    show (match Nat.beq ((x.2.2 : Int)).toNat n with
      | true => SV.agg [MKey.e x.1, MVal.e v, .int .i64 (x.2.2 : Int)] :: r.map mV
      | false => mV x :: mpSet (r.map mV) n (MVal.e v)) = _
    rw [Int.toNat_natCast, beqN, mpSet_map n v r]
    rw [tSet]
    by_cases h : x.2.2 = n <;> simp [h, mV]
theorem tGet_none {k : κ} : ∀ {tl : List (κ × α × Nat)}, tGet tl k = none ↔ k ∉ tl.map (·.1)
  | [] => by simp [tGet]
  | x :: r => by
    rw [tGet]
    by_cases h : k = x.1
    · simp [h]
    · simp [h, tGet_none (tl := r)]
theorem tGet_mod {k k' : κ} {v : α} : ∀ {tl : List (κ × α × Nat)}, (tGet tl k).isSome = true → tGet (tMod tl k v) k' = if k' = k then some v else tGet tl k'
  | [], h => by simp [tGet] at h
  | x :: r, h => by
    rw [tMod]
    by_cases hk : k = x.1
    · rw [if_pos hk]
      simp only [tGet]
      by_cases h2 : k' = k
      · rw [if_pos (h2.trans hk), if_pos h2]
      · rw [if_neg (fun e => h2 (e.trans hk.symm)), if_neg h2, if_neg (fun e => h2 (e.trans hk.symm))]
    · rw [if_neg hk]
      rw [tGet] at h
      simp only [tGet]
      rw [if_neg hk] at h
      by_cases h2 : k' = x.1
      · rw [if_pos h2, if_neg (fun e => hk (e.symm.trans h2)), if_pos h2]
      · rw [if_neg h2, if_neg h2]; exact tGet_mod h
theorem tGet_app {k k' : κ} {v : α} {n : Nat} : ∀ {tl : List (κ × α × Nat)}, tGet tl k = none → tGet (tl ++ [(k, v, n)]) k' = if k' = k then some v else tGet tl k'
  | [], _ => by simp [tGet]
  | x :: r, h => by
    rw [tGet] at h
    by_cases hk : k = x.1
    · simp [hk] at h
    · rw [if_neg hk] at h
      show tGet (x :: (r ++ [(k, v, n)])) k' = _
      simp only [tGet]
      by_cases h2 : k' = x.1
      · rw [if_pos h2, if_neg (fun e => hk (e.symm.trans h2)), if_pos h2]
      · rw [if_neg h2, if_neg h2]; exact tGet_app h
theorem tGet_del {k k' : κ} : ∀ {tl : List (κ × α × Nat)}, (tl.map (·.1)).Nodup → tGet (tDel tl k) k' = if k' = k then none else tGet tl k'
  | [], _ => by simp [tGet, tDel]
  | x :: r, h => by
    rw [List.map_cons, List.nodup_cons] at h
    rw [tDel]
    by_cases hk : k = x.1
    · rw [if_pos hk]
      by_cases h2 : k' = k
      · rw [if_pos h2, tGet_none, h2, hk]; exact h.1
      · rw [if_neg h2]
        conv => rhs; rw [tGet]
        rw [if_neg (fun e => h2 (e.trans hk.symm))]
    · rw [if_neg hk]
      simp only [tGet]
      by_cases h2 : k' = x.1
      · rw [if_pos h2, if_neg (fun e => hk (e.symm.trans h2)), if_pos h2]
      · rw [if_neg h2, if_neg h2]; exact tGet_del h.2
theorem tMod_keys {k : κ} {v : α} : ∀ tl : List (κ × α × Nat), (tMod tl k v).map (·.1) = tl.map (·.1) ∧ (tMod tl k v).map (·.2.2) = tl.map (·.2.2)
  | [] => ⟨rfl, rfl⟩
  | x :: r => by
    rw [tMod]
    obtain ⟨h1, h2⟩ := tMod_keys (k := k) (v := v) r
    split <;> simp [h1, h2]
theorem tDel_sub {k : κ} : ∀ tl : List (κ × α × Nat), (tDel tl k).Sublist tl
  | [] => .slnil
  | x :: r => by
    rw [tDel]
    split
    · exact .cons _ (List.Sublist.refl _)
    · exact .cons_cons _ (tDel_sub r)

/-- A map's entries, as a function. -/
def Mp (l : List SV) (ck : Nat) (f : κ → Option α) : Prop :=
  ∃ tl : List (κ × α × Nat), l = tl.map mV ∧ (tl.map (·.1)).Nodup ∧ (tl.map (·.2.2)).Pairwise (· < ·) ∧ (∀ x, x ∈ tl → x.2.2 < ck) ∧ ∀ k, tGet tl k = f k
def updF (f : κ → Option α) (k : κ) (v : Option α) : κ → Option α := fun k' => if k' = k then v else f k'
theorem Mp_nil : Mp (κ := κ) (α := α) [] 0 (fun _ => none) := ⟨[], rfl, .nil, .nil, fun x h => (by cases h), fun _ => rfl⟩
variable {l : List SV} {ck : Nat} {f : κ → Option α}
theorem Mp_congr {g : κ → Option α} (h : Mp l ck f) (e : ∀ k, f k = g k) : Mp l ck g := by
  rwa [show g = f from funext fun k => (e k).symm]
theorem Mp_get (h : Mp l ck f) (k : κ) : mpGet l (MKey.e k) = (f k).map MVal.e := by
  obtain ⟨tl, rfl, h1, h2, h3, h4⟩ := h
  rw [mpGet_map, h4]
theorem Mp_v (h : Mp l ck f) (k : κ) : mpV l (MKey.e k) = match f k with
    | some v => MVal.e v
    | none => .any := by
  unfold mpV; rw [Mp_get h]; cases f k <;> rfl
theorem Mp_has (h : Mp l ck f) (k : κ) : mpHas l (MKey.e k) = (f k).isSome := by
  unfold mpHas; rw [Mp_get h]; cases f k <;> rfl
theorem Mp_put (h : Mp l ck f) (k : κ) (v : α) : Mp (mpPut l ck (MKey.e k) (MVal.e v)) (mpCk l ck (MKey.e k)) (updF f k (some v)) := by
  have hh := Mp_has h k
  obtain ⟨tl, rfl, h1, h2, h3, h4⟩ := h
  unfold mpPut mpCk
  rw [hh]
  cases hf : f k with
  | none =>
    refine ⟨tl ++ [(k, v, ck)], by simp [mV], ?_, ?_, fun x hx => ?_, fun k' => ?_⟩
    · rw [List.map_append, List.nodup_append]
      refine ⟨h1, by simp, fun a ha b hb => ?_⟩
      simp at hb
      subst hb
      rintro rfl
      exact (tGet_none.1 ((h4 a).trans hf)) ha
    · rw [List.map_append, List.pairwise_append]
      refine ⟨h2, by simp, fun a ha b hb => ?_⟩
      simp at hb
      subst hb
      obtain ⟨x, hx, rfl⟩ := List.mem_map.1 ha
      exact h3 x hx
    · rcases List.mem_append.1 hx with hx | hx
      · exact Nat.lt_succ_of_lt (h3 x hx)
      · simp at hx; subst hx; exact Nat.lt_succ_self _
    · rw [tGet_app ((h4 k).trans hf), h4]; rfl
  | some u =>
    obtain ⟨e1, e2⟩ := tMod_keys (k := k) (v := v) tl
    refine ⟨tMod tl k v, by dsimp only [Option.isSome]; rw [mpMod_map], by rw [e1]; exact h1, by rw [e2]; exact h2, fun x hx => ?_, fun k' => ?_⟩
    · have : x.2.2 ∈ (tMod tl k v).map (·.2.2) := List.mem_map_of_mem hx
      rw [e2] at this
      obtain ⟨y, hy, e⟩ := List.mem_map.1 this
      rw [← e]; exact h3 y hy
    · rw [tGet_mod (by rw [h4, hf]; rfl), h4]; rfl
theorem Mp_del (h : Mp l ck f) (k : κ) : Mp (mpDel l (MKey.e k)) ck (updF f k none) := by
  obtain ⟨tl, rfl, h1, h2, h3, h4⟩ := h
  have hs := tDel_sub (k := k) tl
  refine ⟨tDel tl k, mpDel_map k tl, h1.sublist (hs.map _), h2.sublist (hs.map _), fun x hx => h3 x (hs.subset hx), fun k' => ?_⟩
  rw [tGet_del h1, h4]; rfl
/-- What is added to what stands there. -/
theorem tSet_mod {k : κ} {v : α} : ∀ {tl : List (κ × α × Nat)}, (tl.map (·.2.2)).Pairwise (· < ·) → (tGet tl k).isSome = true → mpStK (tl.map mV) ck (MKey.e k) = (mpStK (tl.map mV) ck (MKey.e k)).toNat ∧ tSet tl (mpStK (tl.map mV) ck (MKey.e k)).toNat v = tMod tl k v ∧ (tAt tl (mpStK (tl.map mV) ck (MKey.e k)).toNat).isSome = true ∧ ∃ x, x ∈ tl ∧ (mpStK (tl.map mV) ck (MKey.e k)).toNat = x.2.2
  | [], _, h => by simp [tGet] at h
  | x :: r, hp, h => by
    rw [List.map_cons, List.pairwise_cons] at hp
    have e : mpStK ((x :: r).map mV) ck (MKey.e k) = if k = x.1 then (x.2.2 : Int) else mpStK (r.map mV) ck (MKey.e k) := by
      show (match keyEq (MKey.e k) (MKey.e x.1) with
        | true => (x.2.2 : Int)
        | false => mpStK (r.map mV) ck (MKey.e k)) = _
      rw [MKey.eq]
      by_cases hk : k = x.1 <;> simp [hk]
    rw [e]
    by_cases hk : k = x.1
    · rw [if_pos hk]
      refine ⟨by simp, ?_, by simp [tAt], x, List.mem_cons_self .., by simp⟩
      simp [tSet, tMod, hk]
    · rw [if_neg hk]
      rw [tGet] at h
      rw [if_neg hk] at h
      obtain ⟨q1, q2, q3, y, q4, q5⟩ := tSet_mod (k := k) (v := v) hp.2 h
      have hne : ¬ x.2.2 = (mpStK (r.map mV) ck (MKey.e k)).toNat := by
        rw [q5]
        exact Nat.ne_of_lt (hp.1 _ (List.mem_map_of_mem q4))
      refine ⟨q1, ?_, ?_, y, List.mem_cons_of_mem _ q4, q5⟩
      · rw [tSet, tMod]; rw [if_neg hne, if_neg hk, q2]
      · rw [tAt]; rw [if_neg hne]; exact q3
theorem tSt_new {k : κ} : ∀ {tl : List (κ × α × Nat)}, tGet tl k = none → mpStK (tl.map mV) ck (MKey.e k) = ck
  | [], _ => rfl
  | x :: r, h => by
    rw [tGet] at h
    by_cases hk : k = x.1
    · simp [hk] at h
    · rw [if_neg hk] at h
      show (match keyEq (MKey.e k) (MKey.e x.1) with
        | true => (x.2.2 : Int)
        | false => mpStK (r.map mV) ck (MKey.e k)) = _
      rw [MKey.eq, decide_eq_false hk]
      exact tSt_new h
theorem tSet_app {v v0 : α} {k : κ} : ∀ {tl : List (κ × α × Nat)}, (∀ x, x ∈ tl → x.2.2 < ck) → tSet (tl ++ [(k, v0, ck)]) ck v = tl ++ [(k, v, ck)] ∧ (tAt (tl ++ [(k, v0, ck)]) ck).isSome = true
  | [], _ => by simp [tSet, tAt]
  | x :: r, h => by
    obtain ⟨q1, q2⟩ := tSet_app (v := v) (v0 := v0) (k := k) (tl := r) (fun x hx => h x (List.mem_cons_of_mem _ hx))
    have hne : ¬ x.2.2 = ck := Nat.ne_of_lt (h x (List.mem_cons_self ..))
    constructor
    · show tSet (x :: (r ++ [(k, v0, ck)])) ck v = _
      rw [tSet]; rw [if_neg hne, q1]; rfl
    · show (tAt (x :: (r ++ [(k, v0, ck)])) ck).isSome = true
      rw [tAt]; rw [if_neg hne]; exact q2
end
section
variable {κ : Type} [MKey κ] {l : List SV} {ck : Nat} {f : κ → Option Int}
theorem Mp_int (h : Mp l ck f) (k : κ) : (mpV l (MKey.e k)).toInt = (f k).getD 0 := by
  rw [Mp_v h]; cases f k <;> rfl
/-- '+=' -/
theorem Mp_add (h : Mp l ck f) (k : κ) (v : Int) : (0 ≤ mpStK l ck (MKey.e k) ∧ (mpAt (mpEnt l ck (.int .i64) (MKey.e k)) (mpStK l ck (MKey.e k)).toNat).isSome = true) ∧
    Mp (mpSet (mpEnt l ck (.int .i64) (MKey.e k)) (mpStK l ck (MKey.e k)).toNat (.int .i64 v)) (mpCk l ck (MKey.e k)) (updF f k (some v)) := by
  have hp := Mp_put h k v
  have hh := Mp_has h k
  obtain ⟨tl, rfl, h1, h2, h3, h4⟩ := h
  unfold mpPut at hp
  unfold mpEnt
  rw [hh] at hp ⊢
  cases hf : f k with
  | none =>
    rw [hf] at hp
    have e := tSt_new (ck := ck) ((h4 k).trans hf)
    obtain ⟨q1, q2⟩ := tSet_app (v := v) (v0 := (0 : Int)) (k := k) h3
    have e2 : (tl.map mV ++ [SV.agg [MKey.e k, coerce (.int .i64) .any, .int .i64 (ck : Int)]]) = (tl ++ [(k, (0 : Int), ck)]).map mV := by simp [mV, coerce, SV.toInt, MVal.e]
    dsimp only [Option.isSome] at hp ⊢
    rw [e, Int.toNat_natCast, e2, mpAt_map]
    refine ⟨⟨by omega, by rw [← Option.isSome_map (f := mV)] at q2; exact q2⟩, ?_⟩
    have e3 := mpSet_map ck v (tl ++ [(k, (0 : Int), ck)])
    have e4 : (tl.map mV ++ [SV.agg [MKey.e k, MVal.e v, .int .i64 (ck : Int)]]) = (tl ++ [(k, v, ck)]).map mV := by simp [mV]
    show Mp (mpSet _ ck (MVal.e v)) _ _
    rw [e3, q1, ← e4]; exact hp
  | some u =>
    rw [hf] at hp
    obtain ⟨q1, q2, q3, _⟩ := tSet_mod (ck := ck) (k := k) (v := v) h2 (by rw [h4, hf]; rfl)
    dsimp only [Option.isSome] at hp ⊢
    refine ⟨⟨by omega, by rw [mpAt_map]; rw [← Option.isSome_map (f := mV)] at q3; exact q3⟩, ?_⟩
    show Mp (mpSet _ _ (MVal.e v)) _ _
    rw [mpSet_map, q2, ← mpMod_map]; exact hp
end
section
variable {κ α : Type} [MKey κ] [MVal α] {l : List SV} {ck : Nat} {f : κ → Option α}
/-- Gone through: the keys that were seen, the last one first. -/
def Seen (l : List SV) (sn : List Nat) (ks : List κ) : Prop := ks.Nodup ∧ ∃ tl : List (κ × α × Nat), l = tl.map mV ∧ ∃ ts : List (κ × α × Nat), (∀ x, x ∈ ts → x ∈ tl) ∧ sn = ts.map (·.2.2) ∧ ks = ts.map (·.1)
def leftN (l : List SV) (sn : List Nat) : Nat := (List.range l.length).countP (fun j => !memN (mpS l j) sn)
theorem count_lt {p q : Nat → Bool} : ∀ {L : List Nat} {x : Nat}, (∀ y, y ∈ L → p y = true → q y = true) → x ∈ L → q x = true → p x = false → L.countP p < L.countP q
  | [], _, _, h, _, _ => by cases h
  | y :: r, x, h1, h2, h3, h4 => by
    have hr : ∀ z, z ∈ r → p z = true → q z = true := fun z hz => h1 z (List.mem_cons_of_mem _ hz)
    have hle : r.countP p ≤ r.countP q := List.countP_mono_left hr
    rw [List.countP_cons, List.countP_cons]
    rcases List.mem_cons.1 h2 with rfl | h2
    · rw [if_pos h3, if_neg (by rw [h4]; decide)]; omega
    · have := count_lt hr h2 h3 h4
      by_cases hp : p y = true
      · rw [if_pos hp, if_pos (h1 y (List.mem_cons_self ..) hp)]; omega
      · rw [if_neg hp]; split <;> omega
theorem left_lt {sn : List Nat} {j : Nat} (hj : j < l.length) (h : memN (mpS l j) sn = false) : leftN l (mpS l j :: sn) < leftN l sn := by
  refine count_lt (x := j) (fun y _ hy => ?_) (List.mem_range.2 hj) (by simp [h]) ?_
  · simp only [Bool.not_eq_true'] at hy ⊢
    cases hh : memN (mpS l y) sn with
    | false => rfl
    | true =>
      have := (memN_iff _ (mpS l j :: sn)).2 (List.mem_cons_of_mem _ ((memN_iff _ _).1 hh))
      rw [hy] at this; cases this
  · simp only [Bool.not_eq_false']
    exact (memN_iff _ _).2 (List.mem_cons_self ..)
theorem Seen_nil (h : Mp l ck f) : Seen (κ := κ) (α := α) l [] [] := by
  obtain ⟨tl, h0, _⟩ := h
  exact ⟨.nil, tl, h0, [], fun x hx => (by cases hx), rfl, rfl⟩
/-- The next one. -/
theorem Seen_step (h : Mp l ck f) {sn : List Nat} {ks : List κ} (hs : Seen (α := α) l sn ks) (hke : ∀ a b : κ, (MKey.e a : SV) = MKey.e b → a = b) (hve : ∀ a b : α, (MVal.e a : SV) = MVal.e b → a = b) {j : Nat} (hj : j < l.length) (hn : memN (mpS l j) sn = false) :
    ∃ (k : κ) (v : α), l.getD j .any = mV (k, v, mpS l j) ∧ f k = some v ∧ k ∉ ks ∧ Seen (α := α) l (mpS l j :: sn) (k :: ks) := by
  obtain ⟨tl, rfl, h1, h2, h3, h4⟩ := h
  obtain ⟨hd, tl', e, ts, t1, t2, t3⟩ := hs
  have inj : ∀ a b : κ × α × Nat, mV a = mV b → a = b := fun a b hab => by
    simp only [mV, SV.agg.injEq, List.cons.injEq, SV.int.injEq] at hab
    obtain ⟨a1, a2, a3⟩ := a
    obtain ⟨b1, b2, b3⟩ := b
    have q1 := hke _ _ hab.1
    have q2 := hve _ _ hab.2.1
    have q3 := Int.ofNat.inj hab.2.2.1.2
    simp only at q1 q2 q3
    subst q1 q2 q3; rfl
  have etl : tl' = tl := (List.map_inj_right inj).1 e.symm
  subst etl
  rw [List.length_map] at hj
  have hg : (tl'.map mV).getD j .any = mV tl'[j] := by rw [List.getD_eq_getElem?_getD, List.getElem?_map, List.getElem?_eq_getElem hj]; rfl
  have hsn : mpS (tl'.map mV) j = tl'[j].2.2 := by unfold mpS elCell; rw [hg]; simp [mV, SV.cells, SV.toInt]
  have hgetk : ∀ {r : List (κ × α × Nat)} {x : κ × α × Nat}, (r.map (·.1)).Nodup → x ∈ r → tGet r x.1 = some x.2.1 := by
    intro r
    induction r with
    | nil => intro x _ hx; cases hx
    | cons y r ih =>
      intro x hnd hx
      rw [List.map_cons, List.nodup_cons] at hnd
      rw [tGet]
      rcases List.mem_cons.1 hx with rfl | hx
      · rw [if_pos rfl]
      · rw [if_neg (fun e => hnd.1 (by rw [← e]; exact List.mem_map_of_mem hx)), ih hnd.2 hx]
  have hin : tl'[j] ∈ tl' := List.getElem_mem hj
  have huniq : ∀ x, x ∈ tl' → x.1 = tl'[j].1 → x = tl'[j] := by
    intro x hx hxe
    obtain ⟨i, hi, rfl⟩ := List.mem_iff_getElem.1 hx
    have : i = j := by
      rcases Nat.lt_trichotomy i j with q | q | q
      · have := List.pairwise_iff_getElem.1 h1 i j (by simpa using hi) (by simpa using hj) q
        simp only [List.getElem_map] at this
        exact absurd hxe this
      · exact q
      · have := List.pairwise_iff_getElem.1 h1 j i (by simpa using hj) (by simpa using hi) q
        simp only [List.getElem_map] at this
        exact absurd hxe.symm this
    subst this; rfl
  have hnk : tl'[j].1 ∉ ks := by
    intro hc
    rw [t3] at hc
    obtain ⟨x, hx, hxe⟩ := List.mem_map.1 hc
    have := huniq x (t1 x hx) hxe
    have hm : tl'[j].2.2 ∈ sn := by rw [t2, ← this]; exact List.mem_map_of_mem hx
    rw [← hsn] at hm
    rw [(memN_iff _ _).2 hm] at hn; cases hn
  refine ⟨tl'[j].1, tl'[j].2.1, by rw [hg, hsn], by rw [← h4]; exact hgetk h1 hin, hnk, List.nodup_cons.2 ⟨hnk, hd⟩, tl', rfl, tl'[j] :: ts, fun x hx => ?_, by rw [t2, hsn]; rfl, by rw [t3]; rfl⟩
  rcases List.mem_cons.1 hx with rfl | hx
  · exact hin
  · exact t1 x hx
/-- At the end all were seen. -/
theorem Seen_end (h : Mp l ck f) {sn : List Nat} {ks : List κ} (hs : Seen (α := α) l sn ks) (hke : ∀ a b : κ, (MKey.e a : SV) = MKey.e b → a = b) (hve : ∀ a b : α, (MVal.e a : SV) = MVal.e b → a = b) (hn : ∀ j, j < l.length → memN (mpS l j) sn = true) (k : κ) : f k ≠ none ↔ k ∈ ks := by
  obtain ⟨tl, rfl, h1, h2, h3, h4⟩ := h
  obtain ⟨hd, tl', e, ts, t1, t2, t3⟩ := hs
  have inj : ∀ a b : κ × α × Nat, mV a = mV b → a = b := fun a b hab => by
    simp only [mV, SV.agg.injEq, List.cons.injEq, SV.int.injEq] at hab
    obtain ⟨a1, a2, a3⟩ := a
    obtain ⟨b1, b2, b3⟩ := b
    have q1 := hke _ _ hab.1
    have q2 := hve _ _ hab.2.1
    have q3 := Int.ofNat.inj hab.2.2.1.2
    simp only at q1 q2 q3
    subst q1 q2 q3; rfl
  have etl : tl' = tl := (List.map_inj_right inj).1 e.symm
  subst etl
  rw [← h4, ne_eq, tGet_none, Classical.not_not]
  constructor
  · intro hk
    obtain ⟨x, hx, rfl⟩ := List.mem_map.1 hk
    obtain ⟨j, hj, hje⟩ := List.mem_iff_getElem.1 hx
    have hsn : mpS (tl'.map mV) j = tl'[j].2.2 := by
      unfold mpS elCell
      have hg : (tl'.map mV).getD j .any = mV tl'[j] := by rw [List.getD_eq_getElem?_getD, List.getElem?_map, List.getElem?_eq_getElem hj]; rfl
      rw [hg]; simp [mV, SV.cells, SV.toInt]
    have := (memN_iff _ _).1 (hn j (by rw [List.length_map]; exact hj))
    rw [hsn, t2] at this
    obtain ⟨y, hy, hye⟩ := List.mem_map.1 this
    obtain ⟨i, hi, hie⟩ := List.mem_iff_getElem.1 (t1 y hy)
    have : i = j := by
      rcases Nat.lt_trichotomy i j with q | q | q
      · have := List.pairwise_iff_getElem.1 h2 i j (by simpa using hi) (by simpa using hj) q
        simp only [List.getElem_map] at this
        rw [hie, hye] at this; omega
      · exact q
      · have := List.pairwise_iff_getElem.1 h2 j i (by simpa using hj) (by simpa using hi) q
        simp only [List.getElem_map] at this
        rw [hie, hye] at this; omega
    subst this
    rw [t3, ← hje, hie]
    exact List.mem_map_of_mem hy
  · intro hk
    rw [t3] at hk
    obtain ⟨x, hx, rfl⟩ := List.mem_map.1 hk
    exact List.mem_map_of_mem (t1 x hx)
end
theorem kS_inj : ∀ a b : List UInt8, (MKey.e a : SV) = MKey.e b → a = b := fun _ _ h => SV.str.inj h
theorem kI_inj : ∀ a b : Int, (MKey.e a : SV) = MKey.e b → a = b := fun _ _ h => (SV.int.inj h).2
theorem vI_inj : ∀ a b : Int, (MVal.e a : SV) = MVal.e b → a = b := fun _ _ h => (SV.int.inj h).2
theorem vB_inj : ∀ a b : Bool, (MVal.e a : SV) = MVal.e b → a = b := fun a b h => by cases a <;> cases b <;> first | rfl | cases h
end Go.Rx

