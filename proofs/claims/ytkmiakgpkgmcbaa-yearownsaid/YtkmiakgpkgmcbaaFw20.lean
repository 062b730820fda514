/- The framework, part 20: equal piece by piece; a state at a loop's head. -/
import Derived.Test.YtkmiakgpkgmcbaaFw19
namespace Go.Rx
set_option linter.unusedSectionVars false
open Go.RowKit

theorem andL_all : ∀ (ps : List Prop), andL ps ↔ ∀ p, p ∈ ps → p
  | [] => by simp [andL]
  | p :: r => by
    have := andL_all r
    simp only [andL, List.mem_cons, forall_eq_or_imp] at this ⊢
    rw [this]

theorem andL_app {a b : List Prop} (h : andL (a ++ b)) : andL a ∧ andL b := by
  rw [andL_all] at h
  exact ⟨(andL_all a).2 fun p hp => h p (List.mem_append.2 (.inl hp)), (andL_all b).2 fun p hp => h p (List.mem_append.2 (.inr hp))⟩

section
variable {E : Env} {m : Nat → Option Chunk} {w : World}

theorem eqS_cv {x : Value} {a b : SV} (h : CV E m w x a) (he : andL (eqS a b)) : CV E m w x b := by
  unfold eqS at he
  split at he
  · rename_i k n k' n'
    split at he
    · rename_i hk
      have := of_decide_eq_true hk
      subst this
      simp only [andL, and_true] at he
      subst he
      exact h
    · exact he.1.elim
  · simp only [andL, and_true] at he; subst he; exact h
  · simp only [andL, and_true] at he; subst he; rw [h.inv_tt]; exact .conc _ _ (.bool _)
  · simp only [andL, and_true] at he; subst he; rw [h.inv_ff]; exact .conc _ _ (.bool _)
  · simp only [andL, and_true] at he; subst he; exact h
  · rename_i ks l ks' l'
    split at he
    · rename_i hk
      have := cksEq_eq _ _ hk
      subst this
      simp only [andL, and_true] at he
      subst he
      exact h
    · exact he.1.elim
  · simp only [andL, and_true] at he; subst he; rw [h.inv_nilsl]; exact .conc _ _ (.sl0 _ _ _)
  · split at he
    · rename_i hk
      have := cksEq_eq _ _ hk
      subst this
      simp only [andL, and_true] at he
      obtain ⟨rfl, rfl⟩ := he
      cases h with
      | conc _ _ h => cases h with
        | csl _ ad n cap _ _ q => exact .conc _ _ (q rfl)
    · exact he.1.elim
  · simp only [andL, and_true] at he; subst he; exact h

theorem eqSs_cv : ∀ {as bs : List SV}, andL (eqSs as bs) → as.length = bs.length ∧ ∀ (x : Value) (i : Nat), CV E m w x (as.getD i .any) → CV E m w x (bs.getD i .any)
  | [], [], _ => ⟨rfl, fun _ i h => h⟩
  | a :: r, b :: s, he => by
    simp only [eqSs] at he
    obtain ⟨h1, h2⟩ := andL_app he
    obtain ⟨h3, h4⟩ := eqSs_cv h2
    refine ⟨by simp [h3], fun x i h => ?_⟩
    cases i with
    | zero => exact (by simpa using eqS_cv (by simpa using h) h1)
    | succ i => simpa using h4 x i (by simpa using h)
  | [], _ :: _, he => he.1.elim
  | _ :: _, [], he => he.1.elim

theorem eqTop_cv {x : Value} {a b : SV} (h : CV E m w x a) (he : andL (eqTop a b)) : CV E m w x b := by
  unfold eqTop at he
  split at he
  · obtain ⟨xs, rfl, h1, h2⟩ := h.inv_agg
    obtain ⟨h3, h4⟩ := eqSs_cv (E := E) (m := m) (w := w) he
    exact .agg xs _ (by omega) (fun i => h4 _ i (h2 i))
  · split at he
    · rename_i h1 h2
      have := Nat.eq_of_beq_eq_true h1
      have := Nat.eq_of_beq_eq_true h2
      subst_vars
      exact h
    · exact he.1.elim
  · split at he
    · rename_i h1 h2
      have := Nat.eq_of_beq_eq_true h1
      have := Nat.eq_of_beq_eq_true h2
      subst_vars
      exact h
    · exact he.1.elim
  · exact h
  · exact h
  · exact h
  · exact h
  · exact h
  · simp only [andL, and_true] at he
    subst he
    rw [h.inv_nilp]
    exact .conc _ _ (.oep _ _ _ _ _ _ (fun _ => rfl) (fun h => by cases h))
  · split at he
    · rename_i hk
      have := cksEq_eq _ _ hk
      subst this
      simp only [andL, and_true] at he
      obtain ⟨rfl, rfl, rfl, rfl⟩ := he
      exact .conc _ _ (.oep _ _ _ _ _ _ (fun h => by cases h) (fun _ => h.inv_ep))
    · exact he.1.elim
  · split at he
    · rename_i hk
      have := cksEq_eq _ _ hk
      subst this
      simp only [andL, and_true] at he
      obtain ⟨rfl, he⟩ := he
      refine .conc _ _ ?_
      have hc := h.inv_oep
      cases hc with
      | oep b x _ _ _ _ q1 q2 => exact .oep _ _ _ _ _ _ q1 (fun hb => by
          obtain ⟨rfl, rfl, rfl⟩ := he hb
          exact q2 hb)
    · exact he.1.elim
  · exact .conc _ _ (.any _)
  · exact eqS_cv h he

theorem eqRs_cv : ∀ {as bs : List SV}, andL (eqR.eqRs as bs) → as.length = bs.length ∧ ∀ (x : Value) (i : Nat), CV E m w x (as.getD i .any) → CV E m w x (bs.getD i .any)
  | [], [], _ => ⟨rfl, fun _ i h => h⟩
  | a :: r, b :: s, he => by
    simp only [eqR.eqRs] at he
    obtain ⟨h1, h2⟩ := andL_app he
    obtain ⟨h3, h4⟩ := eqRs_cv h2
    refine ⟨by simp [h3], fun x i h => ?_⟩
    cases i with
    | zero => exact (by simpa using eqTop_cv (by simpa using h) h1)
    | succ i => simpa using h4 x i (by simpa using h)
  | [], _ :: _, he => he.1.elim
  | _ :: _, [], he => he.1.elim

theorem eqR_cv {x : Value} {a b : SV} (h : CV E m w x a) (he : andL (eqR a b)) : CV E m w x b := by
  unfold eqR at he
  split at he
  · obtain ⟨xs, rfl, h1, h2⟩ := h.inv_tup
    obtain ⟨h3, h4⟩ := eqRs_cv (E := E) (m := m) (w := w) he
    exact .tup xs _ (by omega) (fun i => h4 _ i (h2 i))
  · exact eqTop_cv h he
end

section
variable {cx : Cx} {P : Program} [Laid P] {B : Nat} {M I0 : Nat → Prop} {G : Nat → Value} {w0 : World} {E : Env} {s : St} {a : Act} {w : World}

theorem eqTm_cv {m : Nat → Option Chunk} : ∀ {as bs : List (Nat × SV)}, andL (eqTm as bs) → ∀ (x : Value) (t : Nat), CV E m w x (lk .any as t) → CV E m w x (lk .any bs t)
  | [], [], _ => fun _ t h => h
  | (k, a) :: r, (k', b) :: s, he => by
    simp only [eqTm] at he
    split at he
    · rename_i hk
      have := Nat.eq_of_beq_eq_true hk
      subst this
      obtain ⟨h1, h2⟩ := andL_app he
      intro x t h
      rw [lk_cons] at h ⊢
      by_cases e : k = t
      · rw [if_pos e] at h ⊢; exact eqTop_cv h h1
      · rw [if_neg e] at h ⊢; exact eqTm_cv h2 x t h
    · exact he.1.elim
  | [], _ :: _, he => he.1.elim
  | _ :: _, [], he => he.1.elim

/-- Memory that is the same, piece by piece. -/
def EqC : Option Chunk → Option Chunk → Prop
  | none, none => True
  | some c, some d => andL (eqC c d)
  | _, _ => False

theorem eqMem_lk : ∀ {as bs : List (Nat × Chunk)}, andL (eqMem as bs) → ∀ c, EqC (lkO as c) (lkO bs c)
  | [], [], _ => fun c => trivial
  | (k, a) :: r, (k', b) :: s, he => by
    simp only [eqMem] at he
    split at he
    · rename_i hk
      have := Nat.eq_of_beq_eq_true hk
      subst this
      obtain ⟨h1, h2⟩ := andL_app he
      intro c
      rw [lkO_cons, lkO_cons]
      by_cases e : k = c
      · rw [if_pos e, if_pos e]; exact h1
      · rw [if_neg e, if_neg e]; exact eqMem_lk h2 c
    · exact he.1.elim
  | [], _ :: _, he => he.1.elim
  | _ :: _, [], he => he.1.elim

theorem eqCs_cv {m : Nat → Option Chunk} : ∀ (as bs : List SV), andL ((as.zip bs).foldr (fun (p : SV × SV) r => eqTop p.1 p.2 ++ r) (match Nat.beq as.length bs.length with
      | true => []
      | false => [False])) → as.length = bs.length ∧ ∀ {x : Value} (i : Nat), CV E m w x (as.getD i .any) → CV E m w x (bs.getD i .any) := by
  have key : ∀ (as bs : List SV) (tail : List Prop), andL ((as.zip bs).foldr (fun (p : SV × SV) r => eqTop p.1 p.2 ++ r) tail) → andL tail ∧ (as.length = bs.length → ∀ {x : Value} (i : Nat), CV E m w x (as.getD i .any) → CV E m w x (bs.getD i .any)) := by
    intro as
    induction as with
    | nil => intro bs tail h; exact ⟨by simpa using h, fun hl x i hx => by have : bs = [] := List.eq_nil_of_length_eq_zero hl.symm; subst this; exact hx⟩
    | cons a r ih =>
      intro bs tail h
      cases bs with
      | nil => exact ⟨by simpa using h, fun hl => by simp at hl⟩
      | cons b s =>
        simp only [List.zip_cons_cons, List.foldr_cons] at h
        obtain ⟨h1, h2⟩ := andL_app h
        obtain ⟨h3, h4⟩ := ih s tail h2
        refine ⟨h3, fun hl x i hx => ?_⟩
        cases i with
        | zero => exact (by simpa using eqTop_cv (by simpa using hx) h1)
        | succ i => simpa using h4 (by simpa using hl) i (by simpa using hx)
  intro as bs h
  obtain ⟨h1, h2⟩ := key as bs _ h
  cases hb : Nat.beq as.length bs.length with
  | true => exact ⟨Nat.eq_of_beq_eq_true hb, h2 (Nat.eq_of_beq_eq_true hb)⟩
  | false => rw [hb] at h1; exact h1.1.elim

theorem andL_nil_append {p : List Prop} : andL ([] ++ p) ↔ andL p := Iff.rfl

/-- The same state, piece by piece. -/
theorem Rel.eqSt {s' : St} (h : Rel P cx.nt B M I0 G w0 E s a w) (he : andL (eqSt s s')) : Rel P cx.nt B M I0 G w0 E s' a w := by
  obtain ⟨h1, h2⟩ := andL_app he
  have hlk := eqMem_lk h2
  have kind : ∀ c ch, lkO s.mem c = some ch → ∃ ch', lkO s'.mem c = some ch' ∧ andL (eqC ch ch') := fun c ch hc => by
    have := hlk c
    rw [hc] at this
    cases hq : lkO s'.mem c with
    | none => rw [hq] at this; exact this.elim
    | some ch' => rw [hq] at this; exact ⟨ch', rfl, this⟩
  have hver : ∀ c v, verOf (lkO s.mem c) = some v → verOf (lkO s'.mem c) = some v := fun c v hc => by
    cases hq : lkO s.mem c with
    | none => rw [hq] at hc; cases hc
    | some ch =>
      obtain ⟨ch', e1, e2⟩ := kind c ch hq
      rw [e1]
      rw [hq] at hc
      cases ch <;> cases ch' <;> first | (simp [verOf] at hc; done) | exact e2.1.elim | skip
      · simp only [eqC] at e2
        split at e2
        · rename_i q0 q1 q2
          rw [← Nat.eq_of_beq_eq_true q0]; exact hc
        · exact e2.1.elim
      · simp only [eqC] at e2
        split at e2
        · rename_i q0 q2
          rw [← Nat.eq_of_beq_eq_true q0]; exact hc
        · exact e2.1.elim
  have hm : ∀ x v, CV E (lkO s.mem) w x v → CV E (lkO s'.mem) w x v := fun x v hx => by
    refine CV.mono (E := E) (m := lkO s.mem) (w := w) (fun _ h => h) (fun _ _ => rfl) (fun c t cs b hc hl => ⟨?_, hl⟩) (fun c b hc hl => ?_) (fun c v hc => ?_) hx
    · obtain ⟨ch', e1, e2⟩ := kind c _ hc
      cases ch' with
      | box t' cs' => exact ⟨t', cs', e1⟩
      | row => exact e2.1.elim
      | froz => exact e2.1.elim
      | gh => exact e2.1.elim
      | mp => exact e2.1.elim
      | it => exact e2.1.elim
    · cases hk : lkO s.mem c with
      | none => exact (isPt_none hc hk).elim
      | some ch =>
        obtain ⟨ch', e1, e2⟩ := kind c _ hk
        rw [e1]
        refine ⟨?_, ?_, hl⟩ <;> (cases ch <;> cases ch' <;> first | exact id | exact e2.1.elim | (intro h; cases h))
    · exact ⟨v, hver c v hc, Nat.le_refl _, fun _ => ⟨rfl, fun _ h => h⟩⟩
  refine ⟨h.defers, h.tsize, h.fr, h.base, h.i0, h.inew, fun c b hc => ?_, h.inj, fun t => eqTm_cv h1 _ t (hm _ _ (h.tm t)), fun c => ?_, h.ld, h.gv⟩
  · obtain ⟨q1, q2, q3⟩ := h.loc c b hc
    refine ⟨q1, q2, q3.imp id (fun q0 => q0.imp id fun q => ⟨q.1, ?_⟩)⟩
    cases hq : lkO s.mem c with
    | none =>
      have := hlk c
      rw [hq] at this
      cases hq' : lkO s'.mem c with
      | none => rfl
      | some ch' => rw [hq'] at this; exact this.elim
    | some ch =>
      obtain ⟨ch', e1, e2⟩ := kind c ch hq
      rw [e1]
      rw [hq] at q
      cases ch <;> cases ch' <;> first | rfl | exact e2.1.elim | (simp [verOf] at q)
  · have hc := h.ch c
    have := hlk c
    cases hq : lkO s.mem c with
    | none =>
      rw [hq] at this
      cases hq' : lkO s'.mem c with
      | none => trivial
      | some ch' => rw [hq'] at this; exact this.elim
    | some ch =>
      obtain ⟨ch', e1, e2⟩ := kind c ch hq
      rw [e1]
      rw [hq] at hc
      cases ch <;> cases ch' <;> try exact e2.1.elim
      · rename_i t cs t' cs'
        simp only [eqC] at e2
        split at e2
        · rename_i ht
          have := Nat.eq_of_beq_eq_true ht
          subst this
          obtain ⟨b, xs, p1, p2, p3, p4⟩ := hc
          obtain ⟨l1, l2⟩ := eqCs_cv (E := E) (w := w) (m := lkO s'.mem) cs cs' e2
          exact ⟨b, xs, p1, p2, by omega, fun i => l2 i (hm _ _ (p4 i))⟩
        · exact e2.1.elim
      · rename_i v e ks l v' e' ks' l'
        simp only [eqC] at e2
        split at e2
        · rename_i q0 q1 q2
          have := Nat.eq_of_beq_eq_true q0
          have := Nat.eq_of_beq_eq_true q1
          have := cksEq_eq _ _ q2
          simp only [andL, and_true] at e2
          subst_vars
          exact hc
        · exact e2.1.elim
      · rename_i v ks l v' ks' l'
        simp only [eqC] at e2
        split at e2
        · rename_i q0 q2
          have := Nat.eq_of_beq_eq_true q0
          have := cksEq_eq _ _ q2
          simp only [andL, and_true] at e2
          subst_vars
          exact hc
        · exact e2.1.elim
      · simp only [eqC] at e2
        exact eqTop_cv (hm _ _ hc) e2
      · rename_i t kk vk l ck t' kk' vk' l' ck'
        simp only [eqC] at e2
        split at e2
        · rename_i q0 q1
          have q2 := cksEq_eq _ _ q1
          simp only [List.cons.injEq, and_true] at q2
          simp only [andL, and_true] at e2
          obtain ⟨rfl, rfl⟩ := e2
          obtain ⟨rfl, rfl⟩ := q2
          exact hc
        · exact e2.1.elim
      · rename_i d a sn z d' a' sn' z'
        simp only [eqC] at e2
        split at e2
        · rename_i q0
          have := Nat.eq_of_beq_eq_true q0
          simp only [andL, and_true] at e2
          obtain ⟨rfl, rfl, rfl⟩ := e2
          subst this
          obtain ⟨b, db, q1, q2, q3⟩ := hc
          exact ⟨b, db, q1, hm _ _ q2, q3⟩
        · exact e2.1.elim

/-! ### What a loop keeps -/
theorem keepM_lk (m : List (Nat × Chunk)) (km : List Nat) : ∀ (l : List Nat) (c : Nat), lkO (keepM m km l) c = if c ∈ l then (lkO m c).map (normC m km) else none
  | [], c => by simp [keepM, lkO]
  | d :: r, c => by
    simp only [keepM]
    have ih := keepM_lk m km r c
    cases hd : lkO m d with
    | none =>
      dsimp only
      rw [ih]
      by_cases e : c = d
      · subst e; simp [hd]
      · simp [e]
    | some ch =>
      dsimp only
      rw [lkO_cons, ih]
      by_cases e : d = c
      · subst e; rw [if_pos rfl, if_pos (List.mem_cons_self ..), hd]; rfl
      · rw [if_neg e]
        by_cases hcr : c ∈ r
        · rw [if_pos hcr, if_pos (List.mem_cons_of_mem _ hcr)]
        · rw [if_neg hcr, if_neg (fun h => by rcases List.mem_cons.1 h with h | h; exact e h.symm; exact hcr h)]

theorem normL_length (mm : List (Nat × Chunk)) (km : List Nat) : ∀ (cs : List SV), (normL mm km cs).length = cs.length
  | [] => rfl
  | v :: r => by simp [normL, normL_length mm km r]

theorem normC_ver {m : List (Nat × Chunk)} {km : List Nat} {o : Option Chunk} {v : Nat} (h : verOf o = some v) : verOf (o.map (normC m km)) = some 0 := by
  cases o with
  | none => cases h
  | some ch => cases ch <;> simp [verOf] at h <;> rfl

theorem keep_mp {mm : List (Nat × Chunk)} {km : List Nat} {x : Value} {c : Nat} (h : CV E (lkO mm) w x (.mpp c)) (hk : c ∈ km) : CV E (lkO (keepM mm km km)) w x (.mpp c) := by
  obtain ⟨b, rfl, h1, h2⟩ := h.inv_mpp
  obtain ⟨t, kk, vk, l, ck, h3⟩ := isMp_some h1
  exact .mpp c b (by rw [keepM_lk, if_pos hk, h3]; rfl) h2
mutual
theorem normV_cv {mm : List (Nat × Chunk)} {km : List Nat} (hch : ∀ c, ChR E (lkO mm) w c (lkO mm c)) : ∀ (v : SV) (x : Value), CV E (lkO mm) w x v → CV E (lkO (keepM mm km km)) w x (normV mm km v)
  | .osl c ver, x, h => by
    simp only [normV]
    cases hk : km.contains c with
    | false =>
      cases hm : lkO mm c with
      | none => exact .conc _ _ (.any _)
      | some ch =>
        cases ch with
        | box => exact .conc _ _ (.any _)
        | gh => exact .conc _ _ (.any _)
        | mp => exact .conc _ _ (.any _)
        | it => exact .conc _ _ (.any _)
        | row v2 e ks l => exact .conc _ _ (.any _)
        | froz v2 ks l =>
          dsimp only
          cases hb : Nat.beq v2 ver with
          | false => exact .conc _ _ (.any _)
          | true =>
            obtain ⟨v', e1, e2⟩ := h.inv_osl
            rw [hm] at e1
            simp only [verOf, Option.some.injEq] at e1
            have hc := hch c
            rw [hm] at hc
            have hc : Conc E.I w (E.cv c) (.sl ks l) := hc
            rw [← e2 (by rw [← e1]; exact (Nat.eq_of_beq_eq_true hb).symm)] at hc
            exact .conc _ _ hc
    | true =>
      have hk' : c ∈ km := by simpa using hk
      obtain ⟨v', e1, e2⟩ := h.inv_osl
      have hv0 : verOf (lkO (keepM mm km km) c) = some 0 := by rw [keepM_lk, if_pos hk']; exact normC_ver e1
      have good : v' = ver → CV E (lkO (keepM mm km km)) w x (.osl c 0) := fun e => .osl x c 0 0 hv0 (Nat.le_refl _) (fun _ => e2 e.symm)
      cases hm : lkO mm c with
      | none => exact .conc _ _ (.any _)
      | some ch =>
        rw [hm] at e1
        cases ch with
        | box => exact .conc _ _ (.any _)
        | gh => exact .conc _ _ (.any _)
        | mp => exact .conc _ _ (.any _)
        | it => exact .conc _ _ (.any _)
        | row v2 e ks l =>
          simp only [verOf, Option.some.injEq] at e1
          dsimp only
          cases hb : Nat.beq v2 ver with
          | true => exact good (by rw [← e1]; exact Nat.eq_of_beq_eq_true hb)
          | false => exact .conc _ _ (.any _)
        | froz v2 ks l =>
          simp only [verOf, Option.some.injEq] at e1
          dsimp only
          cases hb : Nat.beq v2 ver with
          | true => exact good (by rw [← e1]; exact Nat.eq_of_beq_eq_true hb)
          | false => exact .conc _ _ (.any _)
  | .ptr c off, x, h => by
    simp only [normV]
    cases hk : km.contains c with
    | false => exact .conc _ _ (.any _)
    | true =>
      obtain ⟨b, t, cs, rfl, h1, h2⟩ := h.inv_ptr
      exact .ptr c off b t (normL mm km cs) (by rw [keepM_lk, if_pos (by simpa using hk), h1]; rfl) h2
  | .ptx c off, x, h => by
    simp only [normV]
    cases hk : km.contains c with
    | false => exact .conc _ _ (.any _)
    | true =>
      obtain ⟨b, t, cs, rfl, h1, h2⟩ := h.inv_ptx
      exact .ptx c off b t (normL mm km cs) (by rw [keepM_lk, if_pos (by simpa using hk), h1]; rfl) h2
  | .mpp c, x, h => by
    simp only [normV]
    cases hk : km.contains c with
    | false => exact .conc _ _ (.any _)
    | true => exact keep_mp h (by simpa using hk)
  | .itp c, x, h => by
    simp only [normV]
    obtain ⟨b, rfl, h1, h2⟩ := h.inv_itp
    obtain ⟨d, a, sn, z, h3⟩ := isIt_some h1
    rw [h3]
    cases hk : km.contains c with
    | false => exact .conc _ _ (.any _)
    | true =>
      dsimp only
      cases hd : km.contains d with
      | false => exact .conc _ _ (.any _)
      | true => exact .itp c b (by rw [keepM_lk, if_pos (by simpa using hk), h3]; simp only [Option.map, normC, hd]; rfl) h2
  | .rptr _ _ _ _ _, x, h => .conc _ _ (.any _)
  | .otl _ _ _ _, x, h => .conc _ _ (.any _)
  | .agg cs, x, h => by
    obtain ⟨xs, rfl, h1, h2⟩ := h.inv_agg
    exact .agg xs _ (by rw [normL_length]; exact h1) (fun i => normL_cv hch cs i _ (h2 i))
  | .tup cs, x, h => by
    obtain ⟨xs, rfl, h1, h2⟩ := h.inv_tup
    exact .tup xs _ (by rw [normL_length]; exact h1) (fun i => normL_cv hch cs i _ (h2 i))
  | .fn f cs, x, h => by
    obtain ⟨xs, rfl, h1, h2⟩ := h.inv_fn
    exact .fn f xs _ (by rw [normL_length]; exact h1) (fun i => normL_cv hch cs i _ (h2 i))
  | .any, x, _ => .conc _ _ (.any _)
  | .und, x, h => by rw [h.inv_und]; exact .conc _ _ .und
  | .int _ _, x, h => by rw [h.inv_int]; exact .conc _ _ (.int _ _)
  | .bool _, x, h => by rw [h.inv_bool]; exact .conc _ _ (.bool _)
  | .tt, x, h => by rw [h.inv_tt]; exact .conc _ _ .tt
  | .ff, x, h => by rw [h.inv_ff]; exact .conc _ _ .ff
  | .str _, x, h => by obtain ⟨b, rfl, e⟩ := h.inv_str; exact .conc _ _ (.str _ _ e)
  | .flt _, x, h => by rw [h.inv_flt]; exact .conc _ _ (.flt _)
  | .cpx _ _, x, h => by rw [h.inv_cpx]; exact .conc _ _ (.cpx _ _)
  | .sl _ _, x, h => .conc _ _ h.inv_sl
  | .ep _ _ _ _, x, h => .conc _ _ h.inv_ep
  | .oep _ _ _ _ _, x, h => .conc _ _ h.inv_oep
  | .csl _ _ _, x, h => .conc _ _ (by cases h; assumption)
  | .nb l, x, h => by obtain ⟨b, e1, e2⟩ := h.inv_nb; rw [e1]; exact .conc _ _ (.nb b l e2)
  | .fsl ks l, x, h => .conc _ _ (by cases h; assumption)
  | .lp _ _, x, h => by cases h with | conc _ _ h => cases h
  | .nilsl, x, h => by rw [h.inv_nilsl]; exact .conc _ _ .nilsl
  | .nilp, x, h => by rw [h.inv_nilp]; exact .conc _ _ .nilp
theorem normL_cv {mm : List (Nat × Chunk)} {km : List Nat} (hch : ∀ c, ChR E (lkO mm) w c (lkO mm c)) : ∀ (cs : List SV) (i : Nat) (x : Value), CV E (lkO mm) w x (cs.getD i .any) → CV E (lkO (keepM mm km km)) w x ((normL mm km cs).getD i .any)
  | [], i, x, h => by simpa [normL] using CV.conc _ _ (Conc.any _)
  | v :: r, 0, x, h => by simpa [normL] using normV_cv hch v x (by simpa using h)
  | v :: r, i + 1, x, h => by simpa [normL] using normL_cv hch r i x (by simpa using h)
end

theorem keepT_lk (s : St) (km : List Nat) : ∀ (l : List Nat) (t : Nat), lk .any (keepT s km l) t = if t ∈ l then normV s.mem km (lk .any s.tm t) else .any
  | [], t => by simp [keepT, lk]
  | d :: r, t => by
    simp only [keepT]
    rw [lk_cons, keepT_lk s km r t]
    by_cases e : d = t
    · subst e; simp
    · rw [if_neg e]
      by_cases hcr : t ∈ r
      · rw [if_pos hcr, if_pos (List.mem_cons_of_mem _ hcr)]
      · rw [if_neg hcr, if_neg (fun h => by rcases List.mem_cons.1 h with h | h; exact e h.symm; exact hcr h)]

theorem Rel.keep (h : Rel P cx.nt B M I0 G w0 E s a w) (kt km : List Nat) : Rel P cx.nt B M I0 G w0 E ⟨keepT s km kt, keepM s.mem km km⟩ a w := by
  refine ⟨h.defers, h.tsize, h.fr, h.base, h.i0, h.inew, fun c b hc => ?_, h.inj, fun t => ?_, fun c => ?_, h.ld, h.gv⟩
  · obtain ⟨q1, q2, q3⟩ := h.loc c b hc
    refine ⟨q1, q2, q3.imp id (fun q0 => q0.imp id fun q => ⟨q.1, ?_⟩)⟩
    dsimp only
    rw [keepM_lk]
    split
    · cases hq : lkO s.mem c with
      | none => rfl
      | some ch =>
        rw [hq] at q
        cases ch with
        | it d a sn z => simp only [Option.map, normC]; split <;> rfl
        | row => simp [verOf] at q
        | froz => simp [verOf] at q
        | _ => rfl
    · rfl
  · dsimp only
    rw [keepT_lk]
    split
    · exact normV_cv h.ch _ _ (h.tm t)
    · exact .conc _ _ (.any _)
  · dsimp only
    have hc := h.ch c
    have hk := keepM_lk s.mem km km c
    by_cases hin : c ∈ km
    · rw [if_pos hin] at hk
      rw [hk]
      cases hq : lkO s.mem c with
      | none => trivial
      | some ch =>
        rw [hq] at hc
        cases ch with
        | box t cs =>
          obtain ⟨b, xs, p1, p2, p3, p4⟩ := hc
          exact ⟨b, xs, p1, p2, by rw [normL_length]; exact p3, fun i => normL_cv h.ch cs i _ (p4 i)⟩
        | row v e ks l => exact hc
        | froz v ks l => exact hc
        | gh v => exact normV_cv h.ch _ _ hc
        | mp t kk vk l ck => exact hc
        | it d a sn z =>
          obtain ⟨b, db, p1, p2, p3⟩ := hc
          simp only [Option.map, normC]
          split
          · rename_i hd
            exact ⟨b, db, p1, keep_mp p2 (by simpa using hd), p3⟩
          · exact .conc _ _ (.any _)
    · rw [if_neg hin] at hk
      rw [hk]
      trivial

theorem Rel.nilc1 (h : Rel P cx.nt B M I0 G w0 E s a w) {t c e : Nat} {ks : List CK} (h1 : lk .any s.tm t = .nilsl) (h2 : lkO s.mem c = none) : ∃ E', Rel P cx.nt B M I0 G w0 E' ⟨(t, .osl c 0) :: s.tm, (c, .row 0 e ks []) :: s.mem⟩ a w := by
  have ht := h.tm t
  rw [h1] at ht
  have hx := ht.inv_nilsl
  have hlt : t < a.tmps.size := by
    rcases Nat.lt_or_ge t a.tmps.size with h | h
    · exact h
    · rw [Array.getD_eq_getD_getElem?, Array.getElem?_eq_none h] at hx
      simp [undef] at hx
  have hput : a.put (some t) (.slice none 0 0) = a := by
    cases a with
    | mk tmps defers =>
      simp only [Act.put, Act.mk.injEq, and_true]
      apply Array.ext
      · simp
      · intro i h1 h2
        rw [Array.getElem_setIfInBounds (by simpa using h2)]
        split
        · rename_i e
          subst e
          rw [Array.getD_eq_getD_getElem?, Array.getElem?_eq_getElem hlt] at hx
          simpa using hx.symm
        · rfl
  have := h.row (c := c) (ver := 0) (e := e) (ks := ks) (l := []) (x := .slice none 0 0) (w' := w) (row := none) (fz := []) (d := some t) rfl (fun _ => rfl) (.inl ⟨h2, rfl⟩) ⟨rfl, rfl, rfl, Nat.le_refl _, fun _ _ _ => rfl⟩ (fun k hk => by cases hk) (fun b hb => by cases hb) (fun v hv => by cases hv) (xs := [])
    (World.ownsRow_nil w 0 e _) (fun i j hi => by simp at hi) (fun k hk => by cases hk; rw [← h.tsize]; exact hlt)
  rw [hput] at this
  exact ⟨_, this⟩

theorem Rel.reBox (h : Rel P cx.nt B M I0 G w0 E s a w) {c bt : Nat} {cs cs' : List SV} (h1 : lkO s.mem c = some (.box bt cs)) (hl : cs'.length = cs.length) (hcs : ∀ i x, CV E (lkO s.mem) w x (cs.getD i .any) → CV E (lkO s.mem) w x (cs'.getD i .any)) :
    Rel P cx.nt B M I0 G w0 E ⟨s.tm, (c, .box bt cs') :: s.mem⟩ a w := by
  have hlk : ∀ k, lkO ((c, Chunk.box bt cs') :: s.mem) k = if c = k then some (.box bt cs') else lkO s.mem k := fun k => lkO_cons ..
  have hm : ∀ x v, CV E (lkO s.mem) w x v → CV E (lkO ((c, Chunk.box bt cs') :: s.mem)) w x v := fun x v hx => by
    refine CV.mono (E := E) (m := lkO s.mem) (w := w) (fun _ h => h) (fun _ _ => rfl) (fun k t ds b e1 e2 => ⟨?_, e2⟩) (hq_of fun k b e1 e2 => ⟨?_, e2⟩) (fun k v e1 => ?_) hx
    · rw [hlk]
      by_cases e : c = k
      · rw [if_pos e]; exact ⟨_, _, rfl⟩
      · rw [if_neg e]; exact ⟨_, _, e1⟩
    · have e : ¬ c = k := fun e => by subst e; exact isPt_box e1 h1
      rw [hlk, if_neg e]
    · have e : ¬ c = k := fun e => by subst e; rw [h1] at e1; cases e1
      exact ⟨v, by rw [hlk, if_neg e]; exact e1, Nat.le_refl _, fun _ => ⟨rfl, fun _ h => h⟩⟩
  refine ⟨h.defers, h.tsize, h.fr, h.base, h.i0, h.inew, fun k b e1 => ?_, h.inj, fun t => hm _ _ (h.tm t), fun k => ?_, h.ld, h.gv⟩
  · obtain ⟨q1, q2, q3⟩ := h.loc k b e1
    refine ⟨q1, q2, q3.imp id fun q0 => q0.imp id fun ⟨q4, q5⟩ => ⟨q4, ?_⟩⟩
    show verOf (lkO ((c, Chunk.box bt cs') :: s.mem) k) = none
    rw [hlk]
    by_cases e : c = k
    · rw [if_pos e]; rfl
    · rw [if_neg e]; exact q5
  · show ChR E _ w k (lkO ((c, Chunk.box bt cs') :: s.mem) k)
    rw [hlk]
    by_cases e : c = k
    · subst e
      rw [if_pos rfl]
      have := h.ch c
      rw [h1] at this
      obtain ⟨b, xs, p1, p2, p3, p4⟩ := this
      exact ⟨b, xs, p1, p2, by rw [p3, hl], fun i => hm _ _ (hcs i _ (p4 i))⟩
    · rw [if_neg e]
      exact ChR.mono (E := E) (m := lkO s.mem) (w := w) (fun _ h => h) (fun _ _ => rfl) hm rfl rfl (fun _ _ => rfl) (h.ch k)

/-- The empty slice is one of the function's own. -/
theorem Rel.nilRow (h : Rel P cx.nt B M I0 G w0 E s a w) {c e : Nat} {ks : List CK} (h2 : lkO s.mem c = none) : Rel P cx.nt B M I0 G w0 (E.withRow c (.slice none 0 0)) ⟨s.tm, (c, .row 0 e ks []) :: s.mem⟩ a w := by
  have := h.row (c := c) (ver := 0) (e := e) (ks := ks) (l := []) (x := .slice none 0 0) (w' := w) (row := none) (fz := []) (d := none) rfl (fun _ => rfl) (.inl ⟨h2, rfl⟩) ⟨rfl, rfl, rfl, Nat.le_refl _, fun _ _ _ => rfl⟩ (fun k hk => by cases hk) (fun b hb => by cases hb) (fun v hv => by cases hv) (xs := [])
    (World.ownsRow_nil w 0 e _) (fun i j hi => by simp at hi) (fun k hk => by cases hk)
  exact this

theorem Rel.nilBox1 (h : Rel P cx.nt B M I0 G w0 E s a w) (b o c e : Nat) (ks : List CK) : ∃ E', Rel P cx.nt B M I0 G w0 E' (nilBox b o c e ks s) a w := by
  unfold nilBox
  split
  · rename_i t cs h1 h2
    split
    · rename_i h3
      have hbc : ¬ c = b := fun e => by subst e; rw [h2] at h1; cases h1
      refine ⟨_, (h.nilRow (e := e) (ks := ks) h2).reBox (c := b) (bt := t) (cs := cs) (cs' := cs.set o (.osl c 0)) ?_ (by simp) (fun i x hx => ?_)⟩
      · show lkO ((c, Chunk.row 0 e ks []) :: s.mem) b = _
        rw [lkO_cons, if_neg hbc]; exact h1
      · rw [List.getD_eq_getElem?_getD, List.getElem?_set]
        by_cases hi : o = i
        · subst hi
          rw [List.getD_eq_getElem?_getD, h3] at hx
          have hx : CV _ _ _ x .nilsl := hx
          have ho : o < cs.length := (List.getElem?_eq_some_iff.1 h3).1
          rw [if_pos rfl, if_pos ho]
          refine .osl x c 0 0 ?_ (Nat.le_refl _) (fun _ => ?_)
          · show verOf (lkO ((c, Chunk.row 0 e ks []) :: s.mem) c) = some 0
            rw [lkO_cons, if_pos rfl]; rfl
          · rw [hx.inv_nilsl]
            simp [Env.withRow]
        · rw [if_neg hi, ← List.getD_eq_getElem?_getD]
          exact hx
    · exact ⟨E, h⟩
  · exact ⟨E, h⟩

theorem renV_cv {E E' : Env} {m m' : Nat → Option Chunk} {w : World} {a b : Nat} (hI : E'.I = E.I)
    (hbox : ∀ c t cs, m c = some (.box t cs) → (∃ t' cs', m' c = some (.box t' cs')) ∧ E'.loc c = E.loc c)
    (hver : ∀ c v, verOf (m c) = some v → verOf (m' c) = some v ∧ E'.cv c = E.cv c ∧ E'.loc c = E.loc c)
    (hmp : ∀ c, isMp (m c) = true → c ≠ a → c ≠ b → isMp (m' c) = true ∧ E'.loc c = E.loc c) (ha : isMp (m' a) = true ∧ E'.loc a = E.loc b)
    {x : Value} {v : SV} (h : CV E m w x v) : CV E' m' w x (renV a b v) := by
  have hcon : ∀ {v}, Conc E.I w x v → CV E' m' w x v := fun hc => .conc _ _ (by rw [hI]; exact hc)
  cases v with
  | mpp c =>
    obtain ⟨d, rfl, h1, h2⟩ := h.inv_mpp
    simp only [renV]
    cases e1 : Nat.beq c b with
    | true => rw [Nat.eq_of_beq_eq_true e1] at h2; exact .mpp a d ha.1 (by rw [ha.2]; exact h2)
    | false =>
      dsimp only
      cases e2 : Nat.beq c a with
      | true => exact .conc _ _ (.any _)
      | false =>
        obtain ⟨q1, q2⟩ := hmp c h1 (fun e => by subst e; simp at e2) (fun e => by subst e; simp at e1)
        exact .mpp c d q1 (by rw [q2]; exact h2)
  | itp c => exact .conc _ _ (.any _)
  | agg cs =>
    simp only [renV]
    cases hc : closedL cs with
    | false => exact .conc _ _ (.any _)
    | true => exact hcon (closed_conc (.agg cs) x (by simpa [closed] using hc) h)
  | tup cs =>
    simp only [renV]
    cases hc : closedL cs with
    | false => exact .conc _ _ (.any _)
    | true => exact hcon (closed_conc (.tup cs) x (by simpa [closed] using hc) h)
  | fn f cs =>
    simp only [renV]
    cases hc : closedL cs with
    | false => exact .conc _ _ (.any _)
    | true => exact hcon (closed_conc (.fn f cs) x (by simpa [closed] using hc) h)
  | ptr c off =>
    obtain ⟨d, t, cs, rfl, h1, h2⟩ := h.inv_ptr
    obtain ⟨⟨t', cs', q1⟩, q2⟩ := hbox c t cs h1
    exact .ptr c off d t' cs' q1 (by rw [q2]; exact h2)
  | ptx c off =>
    obtain ⟨d, t, cs, rfl, h1, h2⟩ := h.inv_ptx
    obtain ⟨⟨t', cs', q1⟩, q2⟩ := hbox c t cs h1
    exact .ptx c off d t' cs' q1 (by rw [q2]; exact h2)
  | osl c ver =>
    cases h with
    | conc _ _ hc => cases hc
    | osl _ _ _ v h1 h2 h3 =>
      obtain ⟨q1, q2, q3⟩ := hver c v h1
      exact .osl x c ver v q1 h2 (fun e => by rw [q2]; exact h3 e)
  | rptr c sz i o ver =>
    cases h with
    | conc _ _ hc => cases hc
    | rptr _ _ _ _ _ _ v h1 h2 h3 =>
      obtain ⟨q1, q2, q3⟩ := hver c v h1
      exact .rptr x c sz i o ver v q1 h2 (fun e d hd => h3 e d (by rw [← q3]; exact hd))
  | otl c sz k ver =>
    cases h with
    | conc _ _ hc => cases hc
    | otl _ _ _ _ _ v h1 h2 h3 =>
      obtain ⟨q1, q2, q3⟩ := hver c v h1
      exact .otl x c sz k ver v q1 h2 (fun e => by rw [q2]; exact h3 e)
  | _ => cases h with
    | conc _ _ hc => exact hcon hc

theorem renM_lk (a b : Nat) : ∀ (m : List (Nat × Chunk)) (c : Nat), lkO (renM a b m) c = if c = a ∨ c = b then none else (lkO m c).map (renC a b)
  | [], c => by simp [renM, lkO]
  | (k, ch) :: r, c => by
    have ih := renM_lk a b r c
    simp only [renM]
    cases hk : (Nat.beq k a || Nat.beq k b) with
    | true =>
      dsimp only
      rw [ih, lkO_cons]
      rw [Bool.or_eq_true] at hk
      by_cases e : c = a ∨ c = b
      · rw [if_pos e, if_pos e]
      · rw [if_neg e, if_neg e, if_neg]
        intro e2
        subst e2
        exact e (hk.imp Nat.eq_of_beq_eq_true Nat.eq_of_beq_eq_true)
    | false =>
      dsimp only
      rw [lkO_cons, lkO_cons, ih]
      by_cases e2 : k = c
      · subst e2
        rw [if_pos rfl, if_pos rfl, if_neg]
        · rfl
        · rintro (e | e) <;> (subst e; simp at hk)
      · rw [if_neg e2, if_neg e2]
theorem renT_lk (a b : Nat) : ∀ (m : List (Nat × SV)) (t : Nat), lk .any (renT a b m) t = renV a b (lk .any m t)
  | [], t => rfl
  | (k, v) :: r, t => by
    have ih := renT_lk a b r t
    simp only [renT]
    rw [lk_cons, lk_cons, ih]
    split <;> rfl
theorem renV_getD (a b : Nat) (cs : List SV) (i : Nat) : (cs.map (renV a b)).getD i .any = renV a b (cs.getD i .any) := by
  rw [List.getD_eq_getElem?_getD, List.getD_eq_getElem?_getD, List.getElem?_map]
  cases cs[i]? <;> rfl

/-- Another map under a key. -/
theorem Rel.ren (h : Rel P cx.nt B M I0 G w0 E s a w) (k t : Nat) : ∃ E', Rel P cx.nt B M I0 G w0 E' (renMp k t s) a w := by
  unfold renMp
  split
  rotate_left
  · exact ⟨E, h⟩
  rename_i b hb
  split
  · exact ⟨E, h⟩
  rename_i hkb
  split
  rotate_left
  · exact ⟨E, h⟩
  rename_i ty0 k0 e0 l0 c0 ty kk vk l ck hma hmb
  rw [Bool.or_eq_false_iff] at hkb
  have hne : k ≠ b := fun e => by subst e; simp at hkb
  have hne' : b ≠ k := fun e => hne e.symm
  let E' : Env := ⟨fun c => if c = k then E.loc b else if c = b then none else E.loc c, E.cv, E.I, E.gv⟩
  have hloc : ∀ c, c ≠ k → c ≠ b → E'.loc c = E.loc c := fun c h1 h2 => by show (if c = k then _ else _) = _; rw [if_neg h1, if_neg h2]
  have hlk : E'.loc k = E.loc b := by show (if k = k then _ else _) = _; rw [if_pos rfl]
  have hlb : E'.loc b = none := by show (if b = k then _ else _) = _; rw [if_neg hne', if_pos rfl]
  have hm : ∀ c, lkO ((k, Chunk.mp ty kk vk l ck) :: renM k b s.mem) c = if c = k then some (.mp ty kk vk l ck) else if c = b then none else (lkO s.mem c).map (renC k b) := fun c => by
    rw [lkO_cons, renM_lk]
    by_cases e1 : c = k
    · rw [if_pos e1.symm, if_pos e1]
    · rw [if_neg (fun e => e1 e.symm), if_neg e1]
      by_cases e2 : c = b
      · rw [if_pos (.inr e2), if_pos e2]
      · rw [if_neg (by rintro (e | e); exact e1 e; exact e2 e), if_neg e2]
  have hcv : ∀ {x v}, CV E (lkO s.mem) w x v → CV E' (lkO ((k, Chunk.mp ty kk vk l ck) :: renM k b s.mem)) w x (renV k b v) := fun hx => by
    refine renV_cv (E := E) (E' := E') (m := lkO s.mem) rfl (fun c t cs e1 => ?_) (fun c v e1 => ?_) (fun c e1 h1 h2 => ?_) ⟨by rw [hm, if_pos rfl]; rfl, hlk⟩ hx
    · have h1 : c ≠ k := fun e => by subst e; rw [hma] at e1; cases e1
      have h2 : c ≠ b := fun e => by subst e; rw [hmb] at e1; cases e1
      exact ⟨⟨t, cs.map (renV k b), by rw [hm, if_neg h1, if_neg h2, e1]; rfl⟩, hloc c h1 h2⟩
    · have h1 : c ≠ k := fun e => by subst e; rw [hma] at e1; cases e1
      have h2 : c ≠ b := fun e => by subst e; rw [hmb] at e1; cases e1
      refine ⟨?_, rfl, hloc c h1 h2⟩
      rw [hm, if_neg h1, if_neg h2]
      cases hc : lkO s.mem c with
      | none => rw [hc] at e1; cases e1
      | some ch => rw [hc] at e1; cases ch <;> first | exact e1 | cases e1
    · refine ⟨?_, hloc c h1 h2⟩
      obtain ⟨t', kk', vk', l', ck', e2⟩ := isMp_some e1
      rw [hm, if_neg h1, if_neg h2, e2]; rfl
  refine ⟨E', h.defers, h.tsize, h.fr, h.base, h.i0, h.inew, fun c d e1 => ?_, fun c c' d e1 e2 => ?_, fun t => ?_, fun c => ?_, h.ld, h.gv⟩
  · by_cases h1 : c = k
    · subst h1
      rw [hlk] at e1
      obtain ⟨q1, q2, q3⟩ := h.loc b d e1
      refine ⟨q1, q2, q3.imp id fun q0 => .inl ?_⟩
      rcases q0 with q4 | ⟨q4, _⟩
      · exact q4
      · rw [hkb.2] at q4; cases q4
    · by_cases h2 : c = b
      · subst h2; rw [hlb] at e1; cases e1
      · rw [hloc c h1 h2] at e1
        obtain ⟨q1, q2, q3⟩ := h.loc c d e1
        refine ⟨q1, q2, q3.imp id fun q0 => q0.imp id fun ⟨q4, q5⟩ => ⟨q4, ?_⟩⟩
        show verOf (lkO (_ :: _) c) = none
        rw [hm, if_neg h1, if_neg h2]
        cases hc : lkO s.mem c with
        | none => rfl
        | some ch => rw [hc] at q5; cases ch <;> first | rfl | cases q5
  · have key : ∀ c, E'.loc c = some d → (c = k ∧ E.loc b = some d) ∨ (c ≠ k ∧ c ≠ b ∧ E.loc c = some d) := fun c e => by
      by_cases h1 : c = k
      · subst h1; rw [hlk] at e; exact .inl ⟨rfl, e⟩
      · by_cases h2 : c = b
        · subst h2; rw [hlb] at e; cases e
        · rw [hloc c h1 h2] at e; exact .inr ⟨h1, h2, e⟩
    rcases key c e1 with ⟨a1, a2⟩ | ⟨a1, a2, a3⟩ <;> rcases key c' e2 with ⟨b1, b2⟩ | ⟨b1, b2, b3⟩
    · rw [a1, b1]
    · exact absurd (h.inj c' b d b3 a2) b2
    · exact absurd (h.inj c b d a3 b2) a2
    · exact h.inj c c' d a3 b3
  · show CV E' _ w _ (lk .any (renT k b s.tm) t)
    rw [renT_lk]
    exact hcv (h.tm t)
  · show ChR E' (lkO (_ :: _)) w c (lkO (_ :: _) c)
    rw [hm c]
    by_cases h1 : c = k
    · rw [if_pos h1]
      subst h1
      have := h.ch b
      rw [hmb] at this
      obtain ⟨d, q1, q2⟩ := this
      exact ⟨d, by rw [hlk]; exact q1, q2⟩
    · rw [if_neg h1]
      by_cases h2 : c = b
      · rw [if_pos h2]; trivial
      · rw [if_neg h2]
        have hl := hloc c h1 h2
        have := h.ch c
        cases hc : lkO s.mem c with
        | none => trivial
        | some ch =>
          rw [hc] at this
          cases ch with
          | box t cs =>
            obtain ⟨d, xs, p1, p2, p3, p4⟩ := this
            exact ⟨d, xs, by rw [hl]; exact p1, p2, by rw [p3, List.length_map], fun i => by rw [renV_getD]; exact hcv (p4 i)⟩
          | row v e ks l' =>
            have h3 : RowR E w c e ks l' := this
            show RowR E' w c e ks l'
            unfold RowR RowA RowZ at h3 ⊢
            rw [hl]; exact h3
          | froz v ks l' => exact this
          | gh v => exact hcv this
          | mp t1 k1 v1 l1 c1 =>
            obtain ⟨d, q1, q2⟩ := this
            exact ⟨d, by rw [hl]; exact q1, q2⟩
          | it _ _ _ _ => exact .conc _ _ (.any _)

theorem Rel.nilc : ∀ (l : List (Nat × Nat × Nat × List CK)) {E : Env} {s : St}, Rel P cx.nt B M I0 G w0 E s a w → ∃ E', Rel P cx.nt B M I0 G w0 E' (nilConv l s) a w
  | [], E, s, h => ⟨E, h⟩
  | (t, c, e, ks) :: r, E, s, h => by
    simp only [nilConv]
    split
    · split
      · unfold frzAt
        split
        · rename_i hm
          obtain ⟨E', h', _⟩ := h.freeze1 hm
          exact Rel.nilc r h'
        · exact Rel.nilc r h
      · split
        · obtain ⟨E', h'⟩ := h.ren c e
          exact Rel.nilc r h'
        split
        · rename_i h1 h2
          obtain ⟨E', h'⟩ := h.nilc1 (e := e) (ks := ks) h1 h2
          exact Rel.nilc r h'
        · exact Rel.nilc r h
    · obtain ⟨E', h'⟩ := h.nilBox1 ((t - 100000) / 100) ((t - 100000) % 100) c e ks
      exact Rel.nilc r h'

end
end Go.Rx

