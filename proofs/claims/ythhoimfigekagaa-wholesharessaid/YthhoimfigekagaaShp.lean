/- What is posted: rows of shares, differences. -/
import Derived.Test.YthhoimfigekagaaPrs
namespace Go.Rx
open Go.Proofs
set_option linter.unusedSimpArgs false
set_option linter.unusedVariables false

def shG (A S : List SV) : Nat → Bool
  | 0 => true
  | i + 1 => shG A S i && (rightB (cl A i 0 + cl S i 0) && rightB (cl A i 1 + cl S i 1))
theorem addB_r {x y : Int} (hx : rightB x = true) (hy : rightB y = true) : addB x y = rightB (x + y) := by unfold addB; rw [hx, hy]; rfl
theorem totB2 (a b c d : Int) : totB [el2 a b, el2 c d] 2 = ((addB 0 a && addB 0 b) && (addB a c && addB b d)) := by
  have e : ∀ k, colS [el2 a b, el2 c d] k 1 = cl [el2 a b, el2 c d] 0 k := fun k => Int.zero_add _
  show ((true && (addB 0 a && addB 0 b)) && (addB (colS [el2 a b, el2 c d] 0 1) c && addB (colS [el2 a b, el2 c d] 1 1) d)) = _
  rw [e, e]; rfl
theorem rowB_all {R : List SV} {k : Nat} {f : Nat → Bool} : ∀ n, (∀ i, i < n → rowC R k i = f i) → (∀ i, i < n → f i = true) → rowB R k n = true
  | 0, _, _ => rfl
  | n + 1, h, hf => by simp only [rowB]; rw [rowB_all n (fun i hi => h i (by omega)) (fun i hi => hf i (by omega)), h n (by omega), hf n (by omega)]; rfl
theorem rowB_sh {A S : List SV} : ∀ n, (∀ i, i < n → (rightB (cl A i 0) = true ∧ rightB (cl A i 1) = true) ∧ rightB (cl S i 0) = true ∧ rightB (cl S i 1) = true) → rowB (two A S) 1 n = shG A S n
  | 0, _ => rfl
  | n + 1, h => by
    obtain ⟨⟨a0, a1⟩, s0, s1⟩ := h n (by omega)
    simp only [rowB, shG]
    rw [rowB_sh n (fun i hi => h i (by omega))]
    congr 1
    show totB [el2 (0 + cl A n 0) (0 + cl A n 1), el2 (cl S n 0) (cl S n 1)] 2 = _
    rw [Int.zero_add, Int.zero_add, totB2, addB_r rfl a0, addB_r rfl a1, addB_r a0 s0, addB_r a1 s1, Int.zero_add, Int.zero_add, a0, a1]; rfl
theorem postE_ok {A S : List SV} (hA : ∀ i, i < A.length → rightB (cl A i 0) = true ∧ rightB (cl A i 1) = true) (hS : ∀ i, i < S.length → rightB (cl S i 0) = true ∧ rightB (cl S i 1) = true) (hl : A.length = S.length) (h64 : S.length ≤ 64) : postE A S = chkE (shG A S S.length) := by
  have e0 : stE (two A S) A.length 0 = 0 := by
    unfold stE
    rw [if_neg (by show ¬ ((A.length : Int) ≠ A.length); omega), if_pos]
    refine rowB_all (f := fun _ => true) _ (fun i hi => ?_) (fun _ _ => rfl)
    obtain ⟨a0, a1⟩ := hA i hi
    show totB [el2 0 0, el2 (cl A i 0) (cl A i 1)] 2 = _
    rw [totB2, addB_r rfl a0, addB_r rfl a1, Int.zero_add, Int.zero_add, a0, a1]; rfl
  have e1 : stE (two A S) A.length 1 = chkE (shG A S S.length) := by
    unfold stE
    rw [if_neg (by show ¬ ((S.length : Int) ≠ A.length); omega)]
    show (if rowB (two A S) 1 S.length = true then (0 : Int) else 10) = _
    rw [rowB_sh _ (fun i hi => ⟨hA i (by omega), hS i hi⟩)]
    rfl
  unfold postE sumE
  rw [if_neg (by omega), if_neg (by omega)]
  show feN (stE (two A S) A.length) 2 = _
  simp only [feN, e0, e1, if_true]
theorem shG_all {A S : List SV} : ∀ n, (∀ i, i < n → rightB (cl A i 0 + cl S i 0) = true ∧ rightB (cl A i 1 + cl S i 1) = true) → shG A S n = true
  | 0, _ => rfl
  | n + 1, h => by simp only [shG]; rw [shG_all n (fun i hi => h i (by omega)), (h n (by omega)).1, (h n (by omega)).2]; rfl

theorem lsB_eq (a b c d : Int) : lsB a b c d = (((rightB a && rightB b) && (rightB c && rightB d)) && (rightB (a - c) && rightB (b - d))) := by unfold lsB; rw [rightL4']; simp [Bool.and_assoc]
theorem lsB_true {a b c d : Int} (h : lsB a b c d = true) : (rightB a = true ∧ rightB b = true) ∧ (rightB c = true ∧ rightB d = true) ∧ rightB (a - c) = true ∧ rightB (b - d) = true := by
  rw [lsB_eq] at h; simpa only [Bool.and_eq_true, and_assoc] using h
theorem dlB_get {D P : List SV} {i : Nat} : ∀ {n : Nat}, dlB D P n = true → i < n → lsB (cl D i 0) (cl D i 1) (cl P i 0) (cl P i 1) = true
  | 0, _, h => by omega
  | n + 1, h, hi => by
    simp only [dlB, Bool.and_eq_true] at h
    rcases Nat.lt_or_ge i n with h1 | h1
    · exact dlB_get h.1 h1
    · rw [show i = n by omega]; exact h.2
theorem dl_three {D P : List SV} (h : D.length ≠ P.length) : dlE D P = 3 ∧ dlR D P = [] := by
  have e : dlE D P = 3 := by unfold dlE; rw [if_pos h]
  exact ⟨e, by unfold dlR; rw [e]; rfl⟩
theorem dl_stop {D P : List SV} {i : Nat} (hl : D.length = P.length) (hi : i < D.length) (h : lsB (cl D i 0) (cl D i 1) (cl P i 0) (cl P i 1) = false) : dlE D P = 10 ∧ dlR D P = [] := by
  have e : dlE D P = 10 := by
    unfold dlE
    rw [if_neg (by omega), if_neg]
    rw [dlB_no (i := i + 1) (by simp only [dlB, h]; simp) _ (by omega)]; decide
  exact ⟨e, by unfold dlR; rw [e]; rfl⟩
theorem dl_good {D P : List SV} (hl : D.length = P.length) (h : dlB D P D.length = true) : dlE D P = 0 ∧ dlR D P = dlM D P D.length := by
  have e : dlE D P = 0 := by unfold dlE; rw [if_neg (by omega), if_pos h]
  exact ⟨e, by unfold dlR; rw [e]; rfl⟩
theorem dl_zero {D P : List SV} (h : dlE D P = 0) : D.length = P.length ∧ dlB D P D.length = true := by
  unfold dlE at h
  split at h
  · cases h
  · split at h
    · rename_i h1 h2; exact ⟨by omega, h2⟩
    · cases h
theorem dl_no {D P : List SV} (h : ¬ dlE D P = 0) : dlR D P = [] := by unfold dlR; rw [if_neg h]
theorem dlM_cl {D P : List SV} {n i : Nat} (h : i < n) : cl (dlM D P n) i 0 = cl D i 0 - cl P i 0 ∧ cl (dlM D P n) i 1 = cl D i 1 - cl P i 1 := mkR_cl h _ _
theorem post_dl {D P : List SV} (hl : D.length = P.length) (h64 : D.length ≤ 64) (h : dlB D P D.length = true) : postE P (dlM D P D.length) = 0 ∧ addR P (dlM D P D.length) = mkR D.length (fun i => cl D i 0) (fun i => cl D i 1) := by
  have e : postE P (dlM D P D.length) = 0 := by
    rw [postE_ok (fun i hi => (lsB_true (dlB_get h (by omega))).2.1) (fun i hi => ?_) (by rw [dlM_len]; omega) (by rw [dlM_len]; omega), shG_all]
    · rfl
    · intro i hi
      rw [dlM_len] at hi
      obtain ⟨q1, q2, _⟩ := lsB_true (dlB_get h hi)
      rw [(dlM_cl hi).1, (dlM_cl hi).2, show cl P i 0 + (cl D i 0 - cl P i 0) = cl D i 0 by omega, show cl P i 1 + (cl D i 1 - cl P i 1) = cl D i 1 by omega]
      exact q1
    · rw [dlM_len] at hi
      rw [(dlM_cl hi).1, (dlM_cl hi).2]
      exact (lsB_true (dlB_get h hi)).2.2
  refine ⟨e, ?_⟩
  unfold addR
  rw [if_pos e, ← hl]
  refine mkR_congr fun i hi => ⟨?_, ?_⟩
  · show (0 + cl P i 0) + cl (dlM D P D.length) i 0 = _
    rw [(dlM_cl hi).1]; omega
  · show (0 + cl P i 1) + cl (dlM D P D.length) i 1 = _
    rw [(dlM_cl hi).2]; omega
theorem dd {a b c d : Int} (h1 : a = b) (h2 : c = d) : ¬ (decide (a = b) && decide (c = d)) = false := by simp [h1, h2]
theorem wfL_get {ks : List CK} {l : List SV} (h : wfL ks l) {i : Nat} (hi : i < l.length) : ∃ us, wfKs ks us ∧ l.getD i .any = elOf us := by
  obtain ⟨L0, rfl, _, h2⟩ := h
  rw [List.length_map] at hi
  refine ⟨L0.getD i [], h2 _ ?_, getD_map elOf L0 i [] .any hi⟩
  rw [List.getD_eq_getElem?_getD, List.getElem?_eq_getElem hi]
  exact List.getElem_mem hi
theorem wf_mkR {l : List SV} (h : wfL shK l) : l = mkR l.length (fun i => cl l i 0) (fun i => cl l i 1) := by
  apply List.ext_getElem
  · rw [mkR_len]
  · intro i h1 h2
    obtain ⟨us, q1, q2⟩ := wfL_get h h1
    obtain ⟨v, vs, rfl, q3, q4⟩ := wfKs_cons q1
    obtain ⟨v', vs', rfl, q5, q6⟩ := wfKs_cons q4
    obtain ⟨a, rfl, _⟩ := wfK_int q3
    obtain ⟨b, rfl, _⟩ := wfK_int q5
    rw [wfKs_nil q6] at q2
    have e1 : l[i] = l.getD i .any := by rw [List.getD_eq_getElem?_getD, List.getElem?_eq_getElem h1]; rfl
    have e2 : (mkR l.length (fun i => cl l i 0) (fun i => cl l i 1))[i] = el2 (cl l i 0) (cl l i 1) := by simp [mkR]
    rw [e1, e2]
    unfold cl elCell
    rw [q2]; rfl
theorem wf_row {L : List SV} (h : wfL [.sl shK] L) {i : Nat} (hi : i < L.length) : wfL shK (rwA L i) := by
  obtain ⟨us, q1, q2⟩ := wfL_get h hi
  obtain ⟨v, vs, rfl, q3, q4⟩ := wfKs_cons q1
  rw [wfKs_nil q4] at q2
  obtain ⟨l, rfl, q5⟩ := wfL_of q3
  unfold rwA elCell
  rw [q2]
  exact q5
theorem sumE_out {n : Int} (h : n < 0 ∨ 64 < n) : sumE n [] = 1 := by unfold sumE; rw [if_pos h]
theorem sumE_in {n : Int} (h : ¬ n < 0) (h' : ¬ 64 < n) : sumE n [] = 0 := by unfold sumE; rw [if_neg (by omega)]; rfl
theorem sumE_ok {n : Int} (h : sumE n [] = 0) : ¬ n < 0 ∧ ¬ 64 < n := by
  constructor
  · intro g; rw [sumE_out (.inl g)] at h; cases h
  · intro g; rw [sumE_out (.inr g)] at h; cases h
theorem sumR_nil {n : Int} (h : sumE n [] = 0) : sumR n [] = mkR n.toNat (fun _ => 0) (fun _ => 0) := by unfold sumR; rw [if_pos h]; rfl
end Go.Rx
