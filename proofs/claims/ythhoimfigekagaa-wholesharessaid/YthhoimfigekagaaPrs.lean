/- Differences of shares, and of rows of them. -/
import Derived.Test.YthhoimfigekagaaYr2s
import Derived.Test.YthhoimfigekagaaPr0
namespace Go.Rx
open Go.Proofs
set_option linter.unusedSimpArgs false
set_option linter.unusedVariables false

def lsB (a b c d : Int) : Bool := rightL [.int .i64 a, .int .i64 b, .int .i64 c, .int .i64 d] && (rightB (a - c) && rightB (b - d))
def lsV (a b c d x : Int) : Int := if lsB a b c d = true then x else 0
def dlB (D P : List SV) : Nat → Bool
  | 0 => true
  | i + 1 => dlB D P i && lsB (cl D i 0) (cl D i 1) (cl P i 0) (cl P i 1)
def dlE (D P : List SV) : Int := if D.length ≠ P.length then 3 else if dlB D P D.length = true then 0 else 10
def dlM (D P : List SV) (i : Nat) : List SV := mkR i (fun j => cl D j 0 - cl P j 0) (fun j => cl D j 1 - cl P j 1)
def dlR (D P : List SV) : List SV := if dlE D P = 0 then dlM D P D.length else []
def dl_an (D P : List SV) : Nat → Option Ann
  | 0 => some ⟨Nat, fun i => ⟨[(0, .sl shK D), (1, .sl shK P), (6, .osl 38 0), (16, .int .i64 D.length), (17, .int .i64 i)], [(38, .row 0 47 shK (dlM D P i))]⟩, fun i => i ≤ D.length ∧ D.length = P.length ∧ D.length ≤ 1000000000 ∧ dlB D P i = true, fun i => D.length - i, [0, 1, 6, 16, 17], [38], [(6, 38, 47, shK)], fun _ _ => none⟩
  | _ => none


def sh_sless : List SV → Option (Int × Int × Int × Int)
  | [.agg [.int .i64 a, .int .i64 b], .agg [.int .i64 c, .int .i64 d]] => some (a, b, c, d)
  | _ => none
def em_sless : Int × Int × Int × Int → List SV := fun (a, b, c, d) => [.agg [.int .i64 a, .int .i64 b], .agg [.int .i64 c, .int .i64 d]]
theorem sh_sless_le : ∀ us a, sh_sless us = some a → leL us (em_sless a) := by
  intro us a h
  unfold sh_sless at h
  split at h
  · cases h; exact (.cons (.agg (.cons (.refl _) (.cons (.refl _) .nil))) (.cons (.agg (.cons (.refl _) (.cons (.refl _) .nil))) .nil))
  · cases h
def slessC : Con := conOf sh_sless (fun _ => none) (fun (a, b, c, d) => .tup [.agg [.int .i64 (lsV a b c d (a - c)), .int .i64 (lsV a b c d (b - d))], .int .i64 (chkE (lsB a b c d))])
set_option maxRecDepth 100000 in
theorem vc_sless (a : Int) (b : Int) (c : Int) (d : Int) : (wpF ⟨71, tyT, [(37, rightC), (46, pshareC), (47, psubC), (48, psidesC)], false, 0, [], false⟩ (noAnn) [] Try.f36 (em_sless (a, b, c, d)) (.tup [.agg [.int .i64 (lsV a b c d (a - c)), .int .i64 (lsV a b c d (b - d))], .int .i64 (chkE (lsB a b c d))])) = ((Ob (((4 : Nat) ≤ (9000000000000000000 : Nat))) ∧ ((((!rightL [SV.int IntKind.i64 a, SV.int IntKind.i64 b, SV.int IntKind.i64 c, SV.int IntKind.i64 d]) = true) → (((0 : Int) = lsV a b c d (a - c)) ∧ (((0 : Int) = lsV a b c d (b - d)) ∧ (((10 : Int) = chkE (lsB a b c d)) ∧ (True))))) ∧ (((!rightL [SV.int IntKind.i64 a, SV.int IntKind.i64 b, SV.int IntKind.i64 c, SV.int IntKind.i64 d]) = false) → ((((!decide (pofE a b = (0 : Int))) = true) → (((0 : Int) = lsV a b c d (a - c)) ∧ (((0 : Int) = lsV a b c d (b - d)) ∧ ((pofE a b = chkE (lsB a b c d)) ∧ (True))))) ∧ (((!decide (pofE a b = (0 : Int))) = false) → ((((!decide (pofE c d = (0 : Int))) = true) → (((0 : Int) = lsV a b c d (a - c)) ∧ (((0 : Int) = lsV a b c d (b - d)) ∧ ((pofE c d = chkE (lsB a b c d)) ∧ (True))))) ∧ (((!decide (pofE c d = (0 : Int))) = false) → (Ob ((((sw (100000000000000 : Nat) (pofW a b a)) ∧ (sw (100000000000000 : Nat) (pofW a b b))) ∧ ((sw (100000000000000 : Nat) (pofW c d c)) ∧ (sw (100000000000000 : Nat) (pofW c d d))))) ∧ ((((!decide ((0 : Int) = (0 : Int))) = true) → (((0 : Int) = lsV a b c d (a - c)) ∧ (((0 : Int) = lsV a b c d (b - d)) ∧ (((0 : Int) = chkE (lsB a b c d)) ∧ (True))))) ∧ (((!decide ((0 : Int) = (0 : Int))) = false) → (Ob (((sw (9007199254740992 : Nat) (subW (pofW a b a) (pofW c d c))) ∧ (sw (9007199254740992 : Nat) (subW (pofW a b b) (pofW c d d))))) ∧ ((((!decide ((0 : Int) = (0 : Int))) = true) → (((0 : Int) = lsV a b c d (a - c)) ∧ (((0 : Int) = lsV a b c d (b - d)) ∧ (((10 : Int) = chkE (lsB a b c d)) ∧ (True))))) ∧ (((!decide ((0 : Int) = (0 : Int))) = false) → (Ob (((2 : Nat) ≤ (9000000000000000000 : Nat))) ∧ ((((!rightL [SV.int IntKind.i64 (wv (subW (pofW a b a) (pofW c d c))), SV.int IntKind.i64 (wv (subW (pofW a b b) (pofW c d d)))]) = true) → (((0 : Int) = lsV a b c d (a - c)) ∧ (((0 : Int) = lsV a b c d (b - d)) ∧ (((10 : Int) = chkE (lsB a b c d)) ∧ (True))))) ∧ (((!rightL [SV.int IntKind.i64 (wv (subW (pofW a b a) (pofW c d c))), SV.int IntKind.i64 (wv (subW (pofW a b b) (pofW c d d)))]) = false) → ((wv (subW (pofW a b a) (pofW c d c)) = lsV a b c d (a - c)) ∧ ((wv (subW (pofW a b b) (pofW c d d)) = lsV a b c d (b - d)) ∧ (((0 : Int) = chkE (lsB a b c d)) ∧ (True))))))))))))))))))))) := by kernel_rfl
def sh_sdelta : List SV → Option ((List SV) × (List SV))
  | [D', P'] => (match slOf [.int .i64, .int .i64] D' with | some D => (match slOf [.int .i64, .int .i64] P' with | some P => some (D, P) | _ => none) | _ => none)
  | _ => none
def em_sdelta : (List SV) × (List SV) → List SV := fun (D, P) => [.sl [.int .i64, .int .i64] D, .sl [.int .i64, .int .i64] P]
theorem sh_sdelta_le : ∀ us a, sh_sdelta us = some a → leL us (em_sdelta a) := by
  intro us a h
  unfold sh_sdelta at h
  split at h
  · split at h
    · split at h
      · cases h; exact (.cons (.sl (by assumption)) (.cons (.sl (by assumption)) .nil))
      · cases h
    · cases h
  · cases h
def sdeltaC : Con := conOf sh_sdelta (fun (D, P) => some (Ob (D.length ≤ 1000000000 ∧ P.length ≤ 1000000000))) (fun (D, P) => .tup [.sl shK (dlR D P), .int .i64 (dlE D P)])
set_option maxRecDepth 100000 in
theorem vc_sdelta (D : List SV) (P : List SV) : (wpF ⟨41, tyT, [(36, slessC)], false, 0, [], false⟩ ((dl_an D P)) [] Try.f25 (em_sdelta (D, P)) (.tup [.sl shK (dlR D P), .int .i64 (dlE D P)])) = (((((!decide ((↑D.length : Int) = (↑P.length : Int))) = true) → ((dlR D P = []) ∧ (((3 : Int) = dlE D P) ∧ (True)))) ∧ (((!decide ((↑D.length : Int) = (↑P.length : Int))) = false) → ((∃ (x1 : Nat), ((D = D) ∧ ((P = P) ∧ (((↑D.length : Int) = (↑D.length : Int)) ∧ (((0 : Int) = (↑x1 : Int)) ∧ (([] = dlM D P x1) ∧ (((x1 ≤ D.length) ∧ ((D.length = P.length) ∧ ((D.length ≤ (1000000000 : Nat)) ∧ (dlB D P x1 = true)))) ∧ ((True) ∧ (True))))))))) ∧ (∀ (x2 : Nat), (((x2 ≤ D.length) ∧ ((D.length = P.length) ∧ ((D.length ≤ (1000000000 : Nat)) ∧ (dlB D P x2 = true)))) → (((decide ((↑x2 : Int) < (↑D.length : Int)) = true) → (Ob ((((0 : Int) ≤ (↑x2 : Int)) ∧ ((↑x2 : Int) < (↑D.length : Int)))) ∧ (Ob ((((0 : Int) ≤ (↑x2 : Int)) ∧ ((↑x2 : Int) < (↑P.length : Int)))) ∧ ((((!decide (chkE (lsB (elCell D x2 (0 : Nat)).toInt (elCell D x2 (1 : Nat)).toInt (elCell P x2 (0 : Nat)).toInt (elCell P x2 (1 : Nat)).toInt) = (0 : Int))) = true) → ((dlR D P = []) ∧ ((chkE (lsB (elCell D x2 (0 : Nat)).toInt (elCell D x2 (1 : Nat)).toInt (elCell P x2 (0 : Nat)).toInt (elCell P x2 (1 : Nat)).toInt) = dlE D P) ∧ (True)))) ∧ (((!decide (chkE (lsB (elCell D x2 (0 : Nat)).toInt (elCell D x2 (1 : Nat)).toInt (elCell P x2 (0 : Nat)).toInt (elCell P x2 (1 : Nat)).toInt) = (0 : Int))) = false) → (Ob (((((dlM D P x2).length + (1 : Nat)) * (16 : Nat) ≤ (1099511627776 : Nat)) ∧ ((dlM D P x2).length + (1 : Nat) ≤ (1099511627776 : Nat)))) ∧ (∃ (x3 : Nat), ((D = D) ∧ ((P = P) ∧ (((↑D.length : Int) = (↑D.length : Int)) ∧ ((IntKind.i64.wrap ((↑x2 : Int) + (1 : Int)) = (↑x3 : Int)) ∧ ((dlM D P x2 ++ [SV.agg [SV.int IntKind.i64 (lsV (elCell D x2 (0 : Nat)).toInt (elCell D x2 (1 : Nat)).toInt (elCell P x2 (0 : Nat)).toInt (elCell P x2 (1 : Nat)).toInt ((elCell D x2 (0 : Nat)).toInt - (elCell P x2 (0 : Nat)).toInt)), SV.int IntKind.i64 (lsV (elCell D x2 (0 : Nat)).toInt (elCell D x2 (1 : Nat)).toInt (elCell P x2 (0 : Nat)).toInt (elCell P x2 (1 : Nat)).toInt ((elCell D x2 (1 : Nat)).toInt - (elCell P x2 (1 : Nat)).toInt))]] = dlM D P x3) ∧ (((x3 ≤ D.length) ∧ ((D.length = P.length) ∧ ((D.length ≤ (1000000000 : Nat)) ∧ (dlB D P x3 = true)))) ∧ ((D.length - x3 < D.length - x2) ∧ (True))))))))))))))) ∧ ((decide ((↑x2 : Int) < (↑D.length : Int)) = false) → ((dlM D P x2 = dlR D P) ∧ (((0 : Int) = dlE D P) ∧ (True))))))))))) := by kernel_rfl
theorem rightL4' (a b c d : Int) : rightL [.int .i64 a, .int .i64 b, .int .i64 c, .int .i64 d] = (rightB a && (rightB b && (rightB c && rightB d))) := by simp [rightL, ints, elCell, SV.cells, SV.toInt, List.range, List.range.loop]
theorem rightL2' (a b : Int) : rightL [.int .i64 a, .int .i64 b] = (rightB a && rightB b) := by simp [rightL, ints, elCell, SV.cells, SV.toInt, List.range, List.range.loop]
theorem sless_known : Known Try.prog 36 slessC := by
  refine known1 (nt := 71) (An := fun (a, b, c, d) => noAnn) (labs := []) (lit := false) (em := em_sless) sh_sless_le (by kernel_rfl) mixedT tyT_ok (.cons right_known (.cons pshare_known (.cons psub_known (.cons psides_known .nil)))) Try.func36 (by kernel_rfl) (fun a => by obtain ⟨a, b, c, d⟩ := a; kernel_rfl) (fun a => by obtain ⟨a, b, c, d⟩ := a; rfl) (fun a ha => ?_)
  obtain ⟨a, b, c, d⟩ := a
  refine ⟨_, vc_sless a b c d, ?_⟩
  simp only [Int.reduceLE, Int.reduceLT, Int.reduceEq, Int.reduceNe, Nat.reduceLeDiff, Nat.reduceEqDiff, beq_eq_false_iff_ne, beq_iff_eq, decide_eq_decide, ne_eq, eq_self, true_and, and_true, and_self, and_false, false_and, Bool.not_true, Bool.not_false, Bool.false_eq_true, Bool.true_eq_false, false_implies, true_implies, implies_true, imp_false, not_true, not_false_eq_true, decide_eq_true_eq, decide_eq_false_iff_not, Bool.not_eq_true', Bool.not_eq_false', Bool.and_eq_true, Classical.not_not, decide_true, decide_false, Bool.and_true, Bool.true_and, if_true, if_false, Ob_iff]
  refine ⟨fun h => ?_, fun h => ?_⟩
  · have e : lsB a b c d = false := by unfold lsB; rw [h]; rfl
    unfold lsV; rw [e]; exact ⟨rfl, rfl, rfl⟩
  have hr := h
  rw [rightL4', Bool.and_eq_true, Bool.and_eq_true, Bool.and_eq_true, rightB_iff, rightB_iff, rightB_iff, rightB_iff] at h
  obtain ⟨h1, h2, h3, h4⟩ := h
  have o1 : pofB a b = true := by unfold pofB; rw [Bool.and_eq_true, decide_eq_true_eq, decide_eq_true_eq]; omega
  have o2 : pofB c d = true := by unfold pofB; rw [Bool.and_eq_true, decide_eq_true_eq, decide_eq_true_eq]; omega
  have e1 : pofE a b = 0 := by unfold pofE; rw [if_pos o1]
  have e2 : pofE c d = 0 := by unfold pofE; rw [if_pos o2]
  have s1 := pofW_fv (z := a) o1 (.inl rfl)
  have s2 := pofW_fv (z := b) o1 (.inr rfl)
  have s3 := pofW_fv (z := c) o2 (.inl rfl)
  have s4 := pofW_fv (z := d) o2 (.inr rfl)
  have d1 := subW_fv s1 s3 (by omega) (by omega)
  have d2 := subW_fv s2 s4 (by omega) (by omega)
  rw [wv_of d1 (by omega), wv_of d2 (by omega), rightL2']
  have el : lsB a b c d = (rightB (a - c) && rightB (b - d)) := by unfold lsB; rw [hr]; rfl
  refine ⟨fun g => absurd e1 g, fun _ => ⟨fun g => absurd e2 g, fun _ => ⟨⟨⟨⟨_, s1, by omega⟩, _, s2, by omega⟩, ⟨_, s3, by omega⟩, _, s4, by omega⟩, ⟨⟨_, d1, by omega⟩, _, d2, by omega⟩, fun g => ?_, fun g => ?_⟩⟩⟩
  · unfold lsV; rw [el, g]; exact ⟨rfl, rfl, rfl⟩
  · have g' : lsB a b c d = true := by rw [el]; simpa using g
    unfold lsV; rw [g']; exact ⟨rfl, rfl, rfl⟩

theorem dlB_no {D P : List SV} {i : Nat} (h : dlB D P i = false) : ∀ n, i ≤ n → dlB D P n = false
  | 0, hn => by rw [Nat.le_zero.1 hn] at h; exact h
  | n + 1, hn => by
    rcases Nat.lt_or_ge i (n + 1) with h1 | h1
    · simp only [dlB]; rw [dlB_no h n (by omega)]; rfl
    · rw [show n + 1 = i by omega]; exact h
theorem dlM_len (D P : List SV) (i : Nat) : (dlM D P i).length = i := mkR_len _ _ _
theorem dlM_next (D P : List SV) (i : Nat) : dlM D P i ++ [.agg [.int .i64 (cl D i 0 - cl P i 0), .int .i64 (cl D i 1 - cl P i 1)]] = dlM D P (i + 1) := by
  unfold dlM mkR
  rw [List.range_succ, List.map_append]; rfl
theorem sdelta_known : Known Try.prog 25 sdeltaC := by
  refine known1 (nt := 41) (An := fun (D, P) => (dl_an D P)) (labs := []) (lit := false) (em := em_sdelta) sh_sdelta_le (by kernel_rfl) mixedT tyT_ok (.cons sless_known .nil) Try.func25 (by kernel_rfl) (fun a => by obtain ⟨D, P⟩ := a; kernel_rfl) (fun a => by obtain ⟨D, P⟩ := a; rfl) (fun a ha => ?_)
  obtain ⟨D, P⟩ := a
  replace ha : D.length ≤ 1000000000 ∧ P.length ≤ 1000000000 := ha.out
  refine ⟨_, vc_sdelta D P, ?_⟩
  simp only [Int.reduceLE, Int.reduceLT, Int.reduceEq, Int.reduceNe, Nat.reduceLeDiff, Nat.reduceEqDiff, beq_eq_false_iff_ne, beq_iff_eq, decide_eq_decide, ne_eq, eq_self, true_and, and_true, and_self, and_false, false_and, Bool.not_true, Bool.not_false, Bool.false_eq_true, Bool.true_eq_false, false_implies, true_implies, implies_true, imp_false, not_true, not_false_eq_true, decide_eq_true_eq, decide_eq_false_iff_not, Bool.not_eq_true', Bool.not_eq_false', Bool.and_eq_true, Classical.not_not, decide_true, decide_false, Bool.and_true, Bool.true_and, if_true, if_false, Ob_iff]
  simp only [cl_eq, chkE_z, not_t, dlM_len]
  refine ⟨fun h => ?_, fun h => ⟨⟨0, rfl, rfl, by omega, by omega, by omega, rfl⟩, fun i hi => ⟨fun hlt => ⟨by omega, by omega, fun g => ?_, fun g => ⟨by omega, i + 1, by rw [wrapI (by omega)]; omega, ?_, ⟨by omega, by omega, by omega, ?_⟩, by omega⟩⟩, fun hge => ?_⟩⟩⟩
  · have e : dlE D P = 3 := by unfold dlE; rw [if_pos (by omega)]
    unfold dlR; rw [e]; exact ⟨rfl, rfl⟩
  · have e : dlE D P = 10 := by
      unfold dlE; rw [if_neg (by omega), if_neg]
      rw [dlB_no (i := i + 1) (by simp only [dlB, g]; simp) _ (by omega)]; decide
    unfold dlR; rw [e, g]; exact ⟨rfl, rfl⟩
  · unfold lsV; rw [g, if_pos rfl, if_pos rfl, dlM_next]
  · simp only [dlB, hi.2.2.2, g]; rfl
  · have e : i = D.length := by omega
    subst e
    have e : dlE D P = 0 := by unfold dlE; rw [if_neg (by omega), if_pos hi.2.2.2]
    unfold dlR; rw [e]; exact ⟨rfl, rfl⟩

end Go.Rx
