/- What tax codes free. -/
import Derived.Test.YtnfngikfpajhgaaDoorCode5
namespace Go.Rx
open Go.Proofs
set_option linter.unusedSimpArgs false
set_option linter.unusedVariables false

def partOk (n d : Int) : Bool := decide (0 ≤ n) && decide (1 ≤ d) && decide (n ≤ d) && decide (d ≤ 1048576)
def freeE (s k a f n d : Int) : Int := if codeE s k a f = 0 then (if partOk n d = true then 0 else 1) else codeE s k a f
def freeV (s k a f n d : Int) : Int := if freeE s k a f n d = 0 then (if k = 2 then -(a * n / d) else a * n / d) else 0

def chgE (s k a f t n d : Int) : Int := if freeE s k a f n d = 0 then (if k = 4 then chkE (rightB t) else chkE (subB t (freeV s k a f n d))) else freeE s k a f n d
def chgV (s k a f t n d : Int) : Int := if freeE s k a f n d = 0 then (if k = 4 then 0 else max 0 (subV t (freeV s k a f n d))) else 0

def sh_cfree : List SV → Option (Int × Int × Int × Int × Bool × Int × Int)
  | [.agg [.int .i64 s, .int .i64 k, .int .i64 a, .int .i64 f, al'], .int .i64 n, .int .i64 d] => (match bOf al' with | some al => some (s, k, a, f, al, n, d) | _ => none)
  | _ => none
def em_cfree : Int × Int × Int × Int × Bool × Int × Int → List SV := fun (s, k, a, f, al, n, d) => [.agg [.int .i64 s, .int .i64 k, .int .i64 a, .int .i64 f, .bool al], .int .i64 n, .int .i64 d]
theorem sh_cfree_le : ∀ us a, sh_cfree us = some a → leL us (em_cfree a) := by
  intro us a h
  unfold sh_cfree at h
  split at h
  · split at h
    · cases h; exact (.cons (.agg (.cons (.refl _) (.cons (.refl _) (.cons (.refl _) (.cons (.refl _) (.cons (.bool (by assumption)) .nil)))))) (.cons (.refl _) (.cons (.refl _) .nil)))
    · cases h
  · cases h
def cfreeC : Con := conOf sh_cfree (fun _ => none) (fun (s, k, a, f, al, n, d) => .tup [.int .i64 (freeV s k a f n d), .int .i64 (freeE s k a f n d)])
set_option maxRecDepth 100000 in
theorem vc_cfree (s : Int) (k : Int) (a : Int) (f : Int) (al : Bool) (n : Int) (d : Int) : (wpF ⟨46, tyT, [(11, ccheckC), (21, scaleC)], false, 0, [], false⟩ (noAnn) [] Tryd.f12 (em_cfree (s, k, a, f, al, n, d)) (.tup [.int .i64 (freeV s k a f n d), .int .i64 (freeE s k a f n d)])) = (((((!decide (codeE s k a f = (0 : Int))) = true) → (((0 : Int) = freeV s k a f n d) ∧ ((codeE s k a f = freeE s k a f n d) ∧ (True)))) ∧ (((!decide (codeE s k a f = (0 : Int))) = false) → (((decide (n < (0 : Int)) = true) → (((0 : Int) = freeV s k a f n d) ∧ (((1 : Int) = freeE s k a f n d) ∧ (True)))) ∧ ((decide (n < (0 : Int)) = false) → (((decide (d < (1 : Int)) = true) → (((0 : Int) = freeV s k a f n d) ∧ (((1 : Int) = freeE s k a f n d) ∧ (True)))) ∧ ((decide (d < (1 : Int)) = false) → (((decide (d < n) = true) → (((0 : Int) = freeV s k a f n d) ∧ (((1 : Int) = freeE s k a f n d) ∧ (True)))) ∧ ((decide (d < n) = false) → (((decide ((1048576 : Int) < d) = true) → (((0 : Int) = freeV s k a f n d) ∧ (((1 : Int) = freeE s k a f n d) ∧ (True)))) ∧ ((decide ((1048576 : Int) < d) = false) → (Ob (((in64 n) ∧ (in64 d))) ∧ (((decide (k = (2 : Int)) = true) → ((IntKind.i64.wrap ((0 : Int) - scaleV a n d) = freeV s k a f n d) ∧ ((scaleE a n d = freeE s k a f n d) ∧ (True)))) ∧ ((decide (k = (2 : Int)) = false) → ((scaleV a n d = freeV s k a f n d) ∧ ((scaleE a n d = freeE s k a f n d) ∧ (True))))))))))))))))) := by kernel_rfl
def sh_cchg : List SV → Option (Int × Int × Int × Int × Bool × Int × Int × Int)
  | [.agg [.int .i64 s, .int .i64 k, .int .i64 a, .int .i64 f, al'], .int .i64 t, .int .i64 n, .int .i64 d] => (match bOf al' with | some al => some (s, k, a, f, al, t, n, d) | _ => none)
  | _ => none
def em_cchg : Int × Int × Int × Int × Bool × Int × Int × Int → List SV := fun (s, k, a, f, al, t, n, d) => [.agg [.int .i64 s, .int .i64 k, .int .i64 a, .int .i64 f, .bool al], .int .i64 t, .int .i64 n, .int .i64 d]
theorem sh_cchg_le : ∀ us a, sh_cchg us = some a → leL us (em_cchg a) := by
  intro us a h
  unfold sh_cchg at h
  split at h
  · split at h
    · cases h; exact (.cons (.agg (.cons (.refl _) (.cons (.refl _) (.cons (.refl _) (.cons (.refl _) (.cons (.bool (by assumption)) .nil)))))) (.cons (.refl _) (.cons (.refl _) (.cons (.refl _) .nil))))
    · cases h
  · cases h
def cchgC : Con := conOf sh_cchg (fun _ => none) (fun (s, k, a, f, al, t, n, d) => .tup [.int .i64 (chgV s k a f t n d), .int .i64 (chgE s k a f t n d)])
set_option maxRecDepth 100000 in
theorem vc_cchg (s : Int) (k : Int) (a : Int) (f : Int) (al : Bool) (t : Int) (n : Int) (d : Int) : (wpF ⟨39, tyT, [(12, cfreeC), (22, rightC), (23, msubC)], false, 0, [], false⟩ (noAnn) [] Tryd.f13 (em_cchg (s, k, a, f, al, t, n, d)) (.tup [.int .i64 (chgV s k a f t n d), .int .i64 (chgE s k a f t n d)])) = (((((!decide (freeE s k a f n d = (0 : Int))) = true) → (((0 : Int) = chgV s k a f t n d) ∧ ((freeE s k a f n d = chgE s k a f t n d) ∧ (True)))) ∧ (((!decide (freeE s k a f n d = (0 : Int))) = false) → (((decide (k = (4 : Int)) = true) → (Ob (((1 : Nat) ≤ (9000000000000000000 : Nat))) ∧ ((((!rightL [SV.int IntKind.i64 t]) = true) → (((0 : Int) = chgV s k a f t n d) ∧ (((10 : Int) = chgE s k a f t n d) ∧ (True)))) ∧ (((!rightL [SV.int IntKind.i64 t]) = false) → (((0 : Int) = chgV s k a f t n d) ∧ (((0 : Int) = chgE s k a f t n d) ∧ (True))))))) ∧ ((decide (k = (4 : Int)) = false) → ((maxV (0 : Int) (subV t (freeV s k a f n d)) = chgV s k a f t n d) ∧ ((chkE (subB t (freeV s k a f n d)) = chgE s k a f t n d) ∧ (True)))))))) := by kernel_rfl
theorem code_in {s k a f : Int} (hE : codeE s k a f = 0) : 0 ≤ s ∧ s ≤ 7 ∧ 1 ≤ k ∧ k ≤ 4 ∧ 0 ≤ a ∧ a ≤ 999999000 ∧ 0 ≤ f ∧ f ≤ 7 ∧ a % 1000 = 0 ∧ (k = 2 → a ≠ 0) ∧ (k ≠ 1 → k ≠ 2 → a = 0) ∧ (k ≠ 3 → f = 0) := by
  unfold codeE at hE
  split at hE
  · cases hE
  · split at hE
    · cases hE
    · rename_i h
      have h6 : a.tmod 1000 = 0 := by omega
      rw [Int.tmod_eq_emod_of_nonneg (by omega)] at h6
      omega

theorem part_in {n d : Int} (h : partOk n d = true) : 0 ≤ n ∧ 1 ≤ d ∧ n ≤ d ∧ d ≤ 1048576 := by
  simp only [partOk, Bool.and_eq_true, decide_eq_true_eq] at h
  omega

theorem part_le {a n d : Int} (ha : 0 ≤ a) (h : partOk n d = true) : 0 ≤ a * n / d ∧ a * n / d ≤ a := by
  obtain ⟨h1, h2, h3, h4⟩ := part_in h
  have m0 : 0 ≤ a * n := Int.mul_nonneg ha h1
  refine ⟨Int.ediv_nonneg m0 (by omega), ?_⟩
  refine Int.ediv_le_of_le_mul (by omega) ?_
  exact Int.mul_le_mul_of_nonneg_left h3 ha

theorem scale_ok {a n d : Int} (ha : 0 ≤ a) (hb : a ≤ 999999000) (h : partOk n d = true) : scaleE a n d = 0 ∧ scaleV a n d = a * n / d := by
  obtain ⟨h1, h2, h3, h4⟩ := part_in h
  obtain ⟨m0, m1⟩ := part_le ha h
  have e : scaleE a n d = 0 := by
    have r1 : rightB a = true := rightB_iff.2 ⟨by omega, by omega⟩
    have r2 : rightB (a * n / d) = true := rightB_iff.2 ⟨by omega, by omega⟩
    have r3 : scaleB n d = true := by simp only [scaleB, Bool.and_eq_true, decide_eq_true_eq]; omega
    simp [scaleE, r1, r2, r3]
  exact ⟨e, by simp [scaleV, e]⟩

theorem cfree_known : Known Tryd.prog 12 cfreeC := by
  refine known1 (nt := 46) (An := fun (s, k, a, f, al, n, d) => noAnn) (labs := []) (lit := false) (em := em_cfree) sh_cfree_le (by kernel_rfl) mixedT tyT_ok (.cons ccheck_known (.cons scale_known .nil)) Tryd.func12 (by kernel_rfl) (fun a => by obtain ⟨s, k, a, f, al, n, d⟩ := a; kernel_rfl) (fun a => by obtain ⟨s, k, a, f, al, n, d⟩ := a; rfl) (fun a ha => ?_)
  obtain ⟨s, k, a, f, al, n, d⟩ := a
  refine ⟨_, vc_cfree s k a f al n d, ?_⟩
  simp only [Int.reduceLE, Int.reduceLT, Int.reduceEq, Int.reduceNe, Nat.reduceLeDiff, Nat.reduceEqDiff, beq_eq_false_iff_ne, beq_iff_eq, decide_eq_decide, ne_eq, eq_self, true_and, and_true, and_self, and_false, false_and, Bool.not_true, Bool.not_false, Bool.false_eq_true, Bool.true_eq_false, false_implies, true_implies, implies_true, imp_false, not_true, not_false_eq_true, decide_eq_true_eq, decide_eq_false_iff_not, Bool.not_eq_true', Bool.not_eq_false', Bool.and_eq_true, Classical.not_not, decide_true, decide_false, Bool.and_true, Bool.true_and, if_true, if_false, Ob_iff]
  refine ⟨fun h => by simp [freeV, freeE, h], fun h => ?_⟩
  have hc := code_in h
  have hn : ∀ {n d : Int}, partOk n d = false → 0 = freeV s k a f n d ∧ 1 = freeE s k a f n d := fun q => by simp [freeV, freeE, h, q]
  have hp : ∀ {n d : Int}, ¬ (0 ≤ n ∧ 1 ≤ d ∧ n ≤ d ∧ d ≤ 1048576) → partOk n d = false := fun q => by
    simp only [partOk, Bool.and_eq_false_iff, decide_eq_false_iff_not]; omega
  refine ⟨fun q => hn (hp (by omega)), fun q1 => ⟨fun q => hn (hp (by omega)), fun q2 => ⟨fun q => hn (hp (by omega)), fun q3 => ⟨fun q => hn (hp (by omega)), fun q4 => ?_⟩⟩⟩⟩
  have hk : partOk n d = true := by simp only [partOk, Bool.and_eq_true, decide_eq_true_eq]; omega
  obtain ⟨e1, e2⟩ := scale_ok hc.2.2.2.2.1 hc.2.2.2.2.2.1 hk
  obtain ⟨m0, m1⟩ := part_le hc.2.2.2.2.1 hk
  refine ⟨⟨⟨by omega, by omega⟩, by omega, by omega⟩, fun q => ?_, fun q => ?_⟩
  · rw [e1, e2, wrapI (by omega)]
    subst q
    simp [freeV, freeE, h, hk]
  · rw [e1, e2]
    simp [freeV, freeE, h, hk, q]

theorem free_in {s k a f n d : Int} (h : freeE s k a f n d = 0) : codeE s k a f = 0 ∧ partOk n d = true := by
  unfold freeE at h
  split at h
  · rename_i h1
    split at h
    · exact ⟨h1, ‹_›⟩
    · cases h
  · exact absurd h ‹_›

theorem cchg_known : Known Tryd.prog 13 cchgC := by
  refine known1 (nt := 39) (An := fun (s, k, a, f, al, t, n, d) => noAnn) (labs := []) (lit := false) (em := em_cchg) sh_cchg_le (by kernel_rfl) mixedT tyT_ok (.cons cfree_known (.cons right_known (.cons msub_known .nil))) Tryd.func13 (by kernel_rfl) (fun a => by obtain ⟨s, k, a, f, al, t, n, d⟩ := a; kernel_rfl) (fun a => by obtain ⟨s, k, a, f, al, t, n, d⟩ := a; rfl) (fun a ha => ?_)
  obtain ⟨s, k, a, f, al, t, n, d⟩ := a
  refine ⟨_, vc_cchg s k a f al t n d, ?_⟩
  simp only [Int.reduceLE, Int.reduceLT, Int.reduceEq, Int.reduceNe, Nat.reduceLeDiff, Nat.reduceEqDiff, beq_eq_false_iff_ne, beq_iff_eq, decide_eq_decide, ne_eq, eq_self, true_and, and_true, and_self, and_false, false_and, Bool.not_true, Bool.not_false, Bool.false_eq_true, Bool.true_eq_false, false_implies, true_implies, implies_true, imp_false, not_true, not_false_eq_true, decide_eq_true_eq, decide_eq_false_iff_not, Bool.not_eq_true', Bool.not_eq_false', Bool.and_eq_true, Classical.not_not, decide_true, decide_false, Bool.and_true, Bool.true_and, if_true, if_false, Ob_iff]
  have e : rightL [.int .i64 t] = rightB t := by simp [rightL, ints, elCell, SV.cells, SV.toInt]
  refine ⟨fun h => by simp [chgV, chgE, h], fun h => ⟨fun q => ⟨fun r => ?_, fun r => ?_⟩, fun q => ?_⟩⟩
  · rw [e] at r; subst q; simp [chgV, chgE, h, chkE, r]
  · rw [e] at r; subst q; simp [chgV, chgE, h, chkE, r]
  · have em : ∀ x : Int, maxV 0 x = max 0 x := fun x => by unfold maxV; omega
    simp [chgV, chgE, h, q, em]

end Go.Rx

