/- The framework, part 25: contracts by the arguments' form. -/
import Derived.Test.YtkmiakgpkgmcbaaFw24
import Derived.IntWalk
namespace Go.Rx
set_option linter.unusedSectionVars false
open Go.RowKit

/-- What is one abstract value is also the other. -/
def leV (u v : SV) : Prop := (∀ (I : Nat → Prop) (w : World) (x : Value), Conc I w x u → Conc I w x v) ∧ (∀ (I : Nat → Prop) (w : World) (x : Value), LpOK I w x u → ArgOK I w x v) ∧ ∀ (I : Nat → Prop) (w : World) (x : Value), MpC I w x u → Conc I w x v ∨ MpC I w x v
def leL (us vs : List SV) : Prop := us.length = vs.length ∧ ∀ i, leV (us.getD i .any) (vs.getD i .any)

theorem leV.of {u v : SV} (hu : ∀ t cs, u ≠ .lp t cs) (hw : ∀ e ks l, u ≠ .own e ks l) (h : ∀ (I : Nat → Prop) (w : World) (x : Value), Conc I w x u → Conc I w x v) : leV u v :=
  ⟨h, fun I w x ⟨t, cs, _, _, e, _⟩ => absurd e (hu t cs), fun I w x ⟨_, _, _, _, _, _, e, _⟩ => absurd e (hw _ _ _)⟩
theorem leV.refl (u : SV) : leV u u := ⟨fun _ _ _ h => h, fun _ _ _ h => .inr h, fun _ _ _ h => .inr h⟩
theorem leV.any (u : SV) : leV u .any := ⟨fun _ _ _ _ => .any _, fun _ _ _ _ => .inl (.any _), fun _ _ _ _ => .inl (.any _)⟩
theorem leL.nil : leL [] [] := ⟨rfl, fun _ => leV.refl _⟩
theorem leL.cons {u v : SV} {us vs : List SV} (h : leV u v) (h' : leL us vs) : leL (u :: us) (v :: vs) := by
  refine ⟨by simp [h'.1], fun i => ?_⟩
  cases i with
  | zero => exact h
  | succ i => simpa using h'.2 i
theorem leV.agg {us vs : List SV} (h : leL us vs) : leV (.agg us) (.agg vs) := by
  refine leV.of (fun _ _ h => by cases h) (fun _ _ _ h => by cases h) ?_
  intro I w x hx
  cases hx with
  | agg xs cs hs hc => exact .agg xs vs (by rw [hs, h.1]) (fun i => (h.2 i).1 I w _ (hc i))
theorem leV.lp {t : Nat} {us vs : List SV} (h : leL us vs) : leV (.lp t us) (.lp t vs) := by
  refine ⟨fun I w x hx => (by cases hx), fun I w x hx => ?_, fun I w x ⟨_, _, _, _, _, _, e, _⟩ => (by cases e)⟩
  obtain ⟨t', cs, b, ys, e, e1, e2, e3, e4, e5, e6⟩ := hx
  cases e
  exact .inr ⟨t, vs, b, ys, rfl, e1, e2, by rw [e3, h.1], fun i => (e4 i).elim (fun hc => .inl ((h.2 i).1 I w _ hc)) (fun hm => (h.2 i).2.2 I w _ hm), e5, e6⟩
theorem leV.bool {u : SV} {b : Bool} (h : bOf u = some b) : leV u (.bool b) := by
  refine leV.of (fun t cs e => by subst e; simp [bOf] at h) (fun a b c e => by subst e; simp [bOf] at h) ?_
  intro I w x hx
  cases u <;> simp [bOf] at h
  · subst h; exact hx
  · subst h; cases hx; exact .bool _
  · subst h; cases hx; exact .bool _

def slOf (ks : List CK) : SV → Option (List SV)
  | .sl ks' l => match cksEq ks' ks with
    | true => some l
    | false => none
  | .nilsl => some []
  | _ => none
theorem leV.sl {ks : List CK} {u : SV} {l : List SV} (h : slOf ks u = some l) : leV u (.sl ks l) := by
  refine leV.of (fun t cs e => by subst e; simp [slOf] at h) (fun a b c e => by subst e; simp [slOf] at h) ?_
  intro I w x hx
  cases u <;> simp only [slOf] at h <;> try cases h
  · split at h
    · rename_i he
      cases h
      rw [cksEq_ok' he] at hx
      exact hx
    · cases h
  · cases hx; exact .sl0 _ _ _

/-- A pointer to memory that nobody writes any more, or nil. -/
def epOf (ks : List CK) : SV → Option (Bool × List SV)
  | .oep b ks' l i o => match cksEq ks' ks, Nat.beq i 0, Nat.beq o 0 with
    | true, true, true => some (b, l)
    | _, _, _ => none
  | .ep ks' l i o => match cksEq ks' ks, Nat.beq i 0, Nat.beq o 0 with
    | true, true, true => some (true, l)
    | _, _, _ => none
  | _ => none
theorem leV.oep {ks : List CK} {u : SV} {b : Bool} {l : List SV} (h : epOf ks u = some (b, l)) : leV u (.oep b ks l 0 0) := by
  refine leV.of (fun t cs e => by subst e; simp [epOf] at h) (fun a b c e => by subst e; simp [epOf] at h) ?_
  intro I w x hx
  cases u <;> simp only [epOf] at h <;> try cases h
  · split at h
    · rename_i h1 h2 h3
      have := cksEq_ok' h1
      have := Nat.eq_of_beq_eq_true h2
      have := Nat.eq_of_beq_eq_true h3
      subst_vars
      cases h
      exact .oep _ _ _ _ _ _ (fun h => by cases h) (fun _ => hx)
    · cases h
  · split at h
    · rename_i h1 h2 h3
      have := cksEq_ok' h1
      have := Nat.eq_of_beq_eq_true h2
      have := Nat.eq_of_beq_eq_true h3
      subst_vars
      cases h
      exact hx
    · cases h

theorem FnOK.le {P : Program} [Laid P] {f : Nat} {us vs : List SV} {r : SV} (h : FnOK P f vs r) (hl : leL us vs) : FnOK P f us r := by
  intro I w xs hl0 hI hs hx
  exact h I w xs hl0 hI (by rw [hs, hl.1]) (fun i => (hx i).elim (fun hx => .inl ((hl.2 i).1 I w _ hx)) (fun hx => (hl.2 i).2.1 I w _ hx))

/-- A contract, by the arguments' form. -/
def conOf {α : Type} (sh : List SV → Option α) (pre : α → Option Prop) (res : α → SV) : Con :=
  ⟨fun us => match sh us with
    | some a => pre a
    | none => some False, fun us => match sh us with
    | some a => res a
    | none => .any⟩

theorem known1 {P : Program} [Laid P] {f : Nat} {α : Type} {sh : List SV → Option α} {em : α → List SV} {pre : α → Option Prop} {res : α → SV} {ty : List (Nat × TyL)} {fn : Func} {nt : Nat} {fs : List (Nat × Con)} {An : α → Nat → Option Ann} {labs : List Nat} {lit : Bool}
    (hsh : ∀ us a, sh us = some a → leL us (em a)) (hb : fnB P f = true) (hm : P.follows .mixedOrders = true) (ht : ∀ t L, lkO ty t = some L → TyOk P t L) (hk : Knows P fs) (hf : P.funcs[f]? = some fn) (hnt : Nat.beq fn.ntmps nt = true)
    (hn : ∀ a, Nat.ble (em a).length fn.ntmps = true) (hc : ∀ a, closed (res a) = true) (h : ∀ a, obH (pre a) → ∃ T : Prop, wpF ⟨nt, ty, fs, lit, 0, [], false⟩ (An a) labs fn (em a) (res a) = T ∧ T) : Known P f (conOf sh pre res) := by
  refine ⟨fnB_ok hb, fun us _ hp => ?_⟩
  simp only [conOf] at hp ⊢
  cases hs : sh us with
  | none => rw [hs] at hp; exact hp.elim
  | some a =>
    rw [hs] at hp
    obtain ⟨T, h1, h2⟩ := h a hp
    exact ⟨hc a, (fnOK (cxOk hm ht hk) hf hnt (hn a) (h1.symm ▸ h2)).le (hsh us a hs)⟩

theorem known1I {P : Program} [Laid P] {f : Nat} {α : Type} {sh : List SV → Option α} {em : α → List SV} {pre : α → Option Prop} {res : α → SV} {ty : List (Nat × TyL)} {fn : Func} {nt : Nat} {fs : List (Nat × Con)} {inl : List (Nat × Tr)} {An : α → Nat → Option Ann} {labs : List Nat} {lit pl : Bool}
    (hsh : ∀ us a, sh us = some a → leL us (em a)) (hb : fnB P f = true) (hm : P.follows .mixedOrders = true) (ht : ∀ t L, lkO ty t = some L → TyOk P t L) (hk : Knows P fs) (hi : InKs P inl) (hf : P.funcs[f]? = some fn) (hnt : Nat.beq fn.ntmps nt = true)
    (hn : ∀ a, Nat.ble (em a).length fn.ntmps = true) (hc : ∀ a, closed (res a) = true) (h : ∀ a, obH (pre a) → ∃ T : Prop, wpF ⟨nt, ty, fs, lit, 0, inl, pl⟩ (An a) labs fn (em a) (res a) = T ∧ T) : Known P f (conOf sh pre res) := by
  refine ⟨fnB_ok hb, fun us _ hp => ?_⟩
  simp only [conOf] at hp ⊢
  cases hs : sh us with
  | none => rw [hs] at hp; exact hp.elim
  | some a =>
    rw [hs] at hp
    obtain ⟨T, h1, h2⟩ := h a hp
    exact ⟨hc a, (fnOK (cxOkI hm ht hk hi) hf hnt (hn a) (h1.symm ▸ h2)).le (hsh us a hs)⟩

/-- What is known of a function, of arguments of the form. -/
theorem Known.at {P : Program} [Laid P] {f : Nat} {α : Type} {sh : List SV → Option α} {pre : α → Option Prop} {res : α → SV} (h : Known P f (conOf sh pre res)) {us : List SV} {a : α} (hs : sh us = some a) (hc : closedAL us = true) (hp : obH (pre a)) : FnOK P f us (res a) := by
  have := h.ok us hc
  simp only [conOf, hs] at this
  exact (this hp).2

/-- Two contracts of one function: which of them holds is told by the arguments. -/
def conOr (s : List SV → Bool) (c1 c2 : Con) : Con :=
  ⟨fun us => match s us with
    | true => c1.pre us
    | false => c2.pre us, fun us => match s us with
    | true => c1.res us
    | false => c2.res us⟩
theorem known_or {P : Program} [Laid P] {f : Nat} {s : List SV → Bool} {c1 c2 : Con} (h1 : Known P f c1) (h2 : Known P f c2) : Known P f (conOr s c1 c2) := by
  refine ⟨h1.b, fun us hc hp => ?_⟩
  simp only [conOr] at hp ⊢
  cases hs : s us with
  | true => rw [hs] at hp; exact h1.ok us hc hp
  | false => rw [hs] at hp; exact h2.ok us hc hp

/-- Whole numbers that a kind can hold. -/
def inK (k : IntKind) (n : Int) : Prop := k.min ≤ n ∧ n ≤ k.max
def in64 (n : Int) : Prop := -9223372036854775808 ≤ n ∧ n ≤ 9223372036854775807
theorem in64_of {n : Int} (h : IntKind.i64.min ≤ n ∧ n ≤ IntKind.i64.max) : in64 n := by
  have h1 : IntKind.i64.min = -9223372036854775808 := by decide
  have h2 : IntKind.i64.max = 9223372036854775807 := by decide
  rw [h1, h2] at h
  exact h
/-- Rows that may be arguments. -/
def wfL (ks : List CK) (l : List SV) : Prop := ∃ L : List (List SV), l = L.map elOf ∧ L.length ≤ maxLen ∧ ∀ us, us ∈ L → wfKs ks us
theorem wfL_of {ks : List CK} {v : SV} (h : wfK (.sl ks) v) : ∃ l, v = .sl ks l ∧ wfL ks l := by
  rw [wfK] at h
  obtain ⟨l, rfl, h1, h2⟩ := h
  exact ⟨_, rfl, l, rfl, h1, h2⟩
theorem wfK_int {v : SV} (h : wfK (.int .i64) v) : ∃ n, v = .int .i64 n ∧ in64 n := by
  rw [wfK] at h
  obtain ⟨n, rfl, h⟩ := h
  exact ⟨n, rfl, in64_of h⟩
theorem wfK_intk {k : IntKind} {v : SV} (h : wfK (.int k) v) : ∃ n, v = .int k n ∧ inK k n := by
  rw [wfK] at h
  obtain ⟨n, rfl, h⟩ := h
  exact ⟨n, rfl, h⟩
theorem wfK_bool {v : SV} (h : wfK .bool v) : ∃ b, v = .bool b := by rw [wfK] at h; exact h
theorem wfK_str {v : SV} (h : wfK .str v) : ∃ s, v = .str s ∧ s.length ≤ maxStr := by rw [wfK] at h; exact h
theorem wfKs_nil {us : List SV} (h : wfKs [] us) : us = [] := by rw [wfKs] at h; exact h
theorem wfKs_cons {k : CK} {ks : List CK} {us : List SV} (h : wfKs (k :: ks) us) : ∃ v vs, us = v :: vs ∧ wfK k v ∧ wfKs ks vs := by rw [wfKs] at h; exact h

theorem getD_map {α β : Type} (f : α → β) (l : List α) (i : Nat) (d : α) (d' : β) (h : i < l.length) : (l.map f).getD i d' = f (l.getD i d) := by
  simp [List.getD_eq_getElem?_getD, h]

/-- Rows of whole numbers. -/
def ints (l : List SV) : List Int := l.map fun e => (elCell [e] 0 0).toInt
theorem ints_map (k : IntKind) (l : List Int) : ints (l.map (SV.int k)) = l := by
  unfold ints
  rw [List.map_map]
  conv => rhs; rw [← List.map_id l]
  rfl
theorem ints_length (l : List SV) : (ints l).length = l.length := by simp [ints]
theorem elCell_one (l : List SV) (i j : Nat) : elCell [l.getD i .any] 0 j = elCell l i j := rfl
theorem ints_get (l : List SV) (i : Nat) (h : i < l.length) : (elCell l i 0).toInt = (ints l).getD i 0 := by
  unfold ints
  rw [getD_map (fun e => (elCell [e] 0 0).toInt) l i .any 0 h]
  rfl
theorem wfL_ints {l : List SV} (h : wfL [.int .i64] l) : l = (ints l).map (SV.int .i64) ∧ (ints l).length ≤ maxLen ∧ ∀ n, n ∈ ints l → in64 n := by
  obtain ⟨L, rfl, h1, h2⟩ := h
  have each : ∀ us, us ∈ L → ∃ n, us = [.int .i64 n] ∧ in64 n := by
    intro us hus
    obtain ⟨v, vs, rfl, h3, h4⟩ := wfKs_cons (h2 us hus)
    obtain ⟨n, rfl, hn⟩ := wfK_int h3
    rw [wfKs_nil h4]
    exact ⟨n, rfl, hn⟩
  have e : L.map elOf = (ints (L.map elOf)).map (SV.int .i64) := by
    unfold ints
    rw [List.map_map, List.map_map]
    refine List.map_congr_left (fun us hus => ?_)
    obtain ⟨n, rfl, _⟩ := each us hus
    rfl
  refine ⟨e, by simpa [ints] using h1, fun n hn => ?_⟩
  unfold ints at hn
  rw [List.map_map] at hn
  obtain ⟨us, hus, rfl⟩ := List.mem_map.1 hn
  obtain ⟨m, rfl, hm⟩ := each us hus
  exact hm

theorem wrapI {n : Int} (h : -9223372036854775808 ≤ n ∧ n ≤ 9223372036854775807) : IntKind.i64.wrap n = n := IntWalk.i64_in n h
def noAnn : Nat → Option Ann := fun _ => none
/-- Loops gone through at most so often: block ↦ (times, slots kept, memory kept). -/
def unrAn (l : List (Nat × (Nat × List Nat × List Nat))) : Nat → Option Ann := fun n => match lkO l n with
  | some (k, kt, km) => some (unroll k kt km)
  | none => none
/-- Where all is plain: every loop is gone through as often as it is. -/
def plAn : Nat → Option Ann := fun k => match Nat.ble 3000 k, Nat.blt k 4000 with
  | true, true => some (unroll 2000 [] [])
  | _, _ => none
end Go.Rx

