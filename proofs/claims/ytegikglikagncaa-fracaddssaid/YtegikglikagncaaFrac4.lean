/- Fractions: the law on exact amounts together. -/
import Derived.Test.YtegikglikagncaaFrac3
namespace Go.Rx
open Go.Proofs
set_option linter.unusedSimpArgs false
set_option linter.unusedVariables false

/-- The sum so far, as the law takes it. -/
def sumS (l : List SV) : Nat → Int
  | 0 => 0
  | n + 1 => if exOk l n && exactB ((ints l).getD n 0) then exSum l (n + 1) else sumS l n
def fadds_an (mode : Int) (l : List SV) : Nat → Option Ann
  | 0 => some ⟨Nat, fun i => ⟨[(1, .int .i64 mode), (5, .osl 30 0), (6, .int .i64 (sumS l i)), (7, .bool (exOk l i)), (21, .sl [.int .i64] l), (22, .int .i64 l.length), (23, .int .i64 i)], [(30, .row 0 39 [.int .i64] (l.take i))]⟩,
      fun i => i ≤ l.length ∧ l.length ≤ 60 ∧ in64 mode ∧ wfL [.int .i64] l, fun i => l.length - i, [1, 5, 6, 7, 21, 22, 23], [30], [(5, 30, 39, [.int .i64])]⟩
  | _ => none
def sh_fadds : List SV → Option ((List SV) × Int)
  | [l', .int .i64 mode] => (match slOf [.int .i64] l' with | some l => some (l, mode) | none => none)
  | _ => none
def em_fadds : (List SV) × Int → List SV := fun (l, mode) => [.sl [.int .i64] l, .int .i64 mode]
theorem sh_fadds_le : ∀ us a, sh_fadds us = some a → leL us (em_fadds a) := by
  intro us a h
  unfold sh_fadds at h
  split at h
  · split at h
    · cases h; exact (.cons (.sl (by assumption)) (.cons (.refl _) .nil))
    · cases h
  · cases h
def faddsC : Con := conOf sh_fadds (fun (l, mode) => some (Ob (wfL [.int .i64] l ∧ in64 mode))) (fun (l, mode) => .bool true)
set_option maxRecDepth 100000 in
theorem vc_fadds (l : List SV) (mode : Int) : (wpF ⟨93, tyT, [(9, partsC), (15, eaddC), (16, coinsC), (10, roundC)], false⟩ ((fadds_an mode l)) [] Try.f7 (em_fadds (l, mode)) (.bool true)) = (((((!true) = true) → ((true = false) ∧ (True))) ∧ (((!true) = false) → (((decide ((60 : Int) < (↑l.length : Int)) = true) → ((true = true) ∧ (True))) ∧ ((decide ((60 : Int) < (↑l.length : Int)) = false) → ((∃ (x1 : Nat), ((mode = mode) ∧ (((0 : Int) = sumS l x1) ∧ ((exOk l x1 = true) ∧ ((l = l) ∧ (((↑l.length : Int) = (↑l.length : Int)) ∧ (((0 : Int) = (↑x1 : Int)) ∧ (([] = List.take x1 l) ∧ (((x1 ≤ l.length) ∧ ((l.length ≤ (60 : Nat)) ∧ ((in64 mode) ∧ (wfL [CK.int IntKind.i64] l)))) ∧ ((True) ∧ (True))))))))))) ∧ ∀ (x2 : Nat), (((x2 ≤ l.length) ∧ ((l.length ≤ (60 : Nat)) ∧ ((in64 mode) ∧ (wfL [CK.int IntKind.i64] l)))) → (((decide ((↑x2 : Int) < (↑l.length : Int)) = true) → (Ob ((((0 : Int) ≤ (↑x2 : Int)) ∧ ((↑x2 : Int) < (↑l.length : Int)))) ∧ (Ob (((((List.take x2 l).length + (1 : Nat)) * (8 : Nat) ≤ (1099511627776 : Nat)) ∧ ((List.take x2 l).length + (1 : Nat) ≤ (1099511627776 : Nat)))) ∧ (((exOk l x2 = true) → (((decide ((1000000000000000 : Int) < (elCell l x2 (0 : Nat)).toInt) = true) → (∃ (x3 : Nat), ((mode = mode) ∧ ((sumS l x2 = sumS l x3) ∧ ((exOk l x3 = false) ∧ ((l = l) ∧ (((↑l.length : Int) = (↑l.length : Int)) ∧ ((IntKind.i64.wrap ((↑x2 : Int) + (1 : Int)) = (↑x3 : Int)) ∧ ((List.take x2 l ++ [SV.int IntKind.i64 (elCell l x2 (0 : Nat)).toInt] = List.take x3 l) ∧ (((x3 ≤ l.length) ∧ ((l.length ≤ (60 : Nat)) ∧ ((in64 mode) ∧ (wfL [CK.int IntKind.i64] l)))) ∧ ((l.length - x3 < l.length - x2) ∧ (True)))))))))))) ∧ ((decide ((1000000000000000 : Int) < (elCell l x2 (0 : Nat)).toInt) = false) → (((decide ((elCell l x2 (0 : Nat)).toInt < (-1000000000000000 : Int)) = true) → (∃ (x4 : Nat), ((mode = mode) ∧ ((sumS l x2 = sumS l x4) ∧ ((exOk l x4 = false) ∧ ((l = l) ∧ (((↑l.length : Int) = (↑l.length : Int)) ∧ ((IntKind.i64.wrap ((↑x2 : Int) + (1 : Int)) = (↑x4 : Int)) ∧ ((List.take x2 l ++ [SV.int IntKind.i64 (elCell l x2 (0 : Nat)).toInt] = List.take x4 l) ∧ (((x4 ≤ l.length) ∧ ((l.length ≤ (60 : Nat)) ∧ ((in64 mode) ∧ (wfL [CK.int IntKind.i64] l)))) ∧ ((l.length - x4 < l.length - x2) ∧ (True)))))))))))) ∧ ((decide ((elCell l x2 (0 : Nat)).toInt < (-1000000000000000 : Int)) = false) → (((exOk l x2 = true) → (((decide (IntKind.i64.wrap (sumS l x2 + (elCell l x2 (0 : Nat)).toInt) ≤ (1000000000000000 : Int)) = true) → (∃ (x5 : Nat), ((mode = mode) ∧ ((IntKind.i64.wrap (sumS l x2 + (elCell l x2 (0 : Nat)).toInt) = sumS l x5) ∧ ((decide ((-1000000000000000 : Int) ≤ IntKind.i64.wrap (sumS l x2 + (elCell l x2 (0 : Nat)).toInt)) = exOk l x5) ∧ ((l = l) ∧ (((↑l.length : Int) = (↑l.length : Int)) ∧ ((IntKind.i64.wrap ((↑x2 : Int) + (1 : Int)) = (↑x5 : Int)) ∧ ((List.take x2 l ++ [SV.int IntKind.i64 (elCell l x2 (0 : Nat)).toInt] = List.take x5 l) ∧ (((x5 ≤ l.length) ∧ ((l.length ≤ (60 : Nat)) ∧ ((in64 mode) ∧ (wfL [CK.int IntKind.i64] l)))) ∧ ((l.length - x5 < l.length - x2) ∧ (True)))))))))))) ∧ ((decide (IntKind.i64.wrap (sumS l x2 + (elCell l x2 (0 : Nat)).toInt) ≤ (1000000000000000 : Int)) = false) → (∃ (x6 : Nat), ((mode = mode) ∧ ((IntKind.i64.wrap (sumS l x2 + (elCell l x2 (0 : Nat)).toInt) = sumS l x6) ∧ ((exOk l x6 = false) ∧ ((l = l) ∧ (((↑l.length : Int) = (↑l.length : Int)) ∧ ((IntKind.i64.wrap ((↑x2 : Int) + (1 : Int)) = (↑x6 : Int)) ∧ ((List.take x2 l ++ [SV.int IntKind.i64 (elCell l x2 (0 : Nat)).toInt] = List.take x6 l) ∧ (((x6 ≤ l.length) ∧ ((l.length ≤ (60 : Nat)) ∧ ((in64 mode) ∧ (wfL [CK.int IntKind.i64] l)))) ∧ ((l.length - x6 < l.length - x2) ∧ (True)))))))))))))) ∧ ((exOk l x2 = false) → (∃ (x7 : Nat), ((mode = mode) ∧ ((sumS l x2 = sumS l x7) ∧ ((exOk l x2 = exOk l x7) ∧ ((l = l) ∧ (((↑l.length : Int) = (↑l.length : Int)) ∧ ((IntKind.i64.wrap ((↑x2 : Int) + (1 : Int)) = (↑x7 : Int)) ∧ ((List.take x2 l ++ [SV.int IntKind.i64 (elCell l x2 (0 : Nat)).toInt] = List.take x7 l) ∧ (((x7 ≤ l.length) ∧ ((l.length ≤ (60 : Nat)) ∧ ((in64 mode) ∧ (wfL [CK.int IntKind.i64] l)))) ∧ ((l.length - x7 < l.length - x2) ∧ (True)))))))))))))))))) ∧ ((exOk l x2 = false) → (((exOk l x2 = true) → (((decide (IntKind.i64.wrap (sumS l x2 + (elCell l x2 (0 : Nat)).toInt) ≤ (1000000000000000 : Int)) = true) → (∃ (x8 : Nat), ((mode = mode) ∧ ((IntKind.i64.wrap (sumS l x2 + (elCell l x2 (0 : Nat)).toInt) = sumS l x8) ∧ ((decide ((-1000000000000000 : Int) ≤ IntKind.i64.wrap (sumS l x2 + (elCell l x2 (0 : Nat)).toInt)) = exOk l x8) ∧ ((l = l) ∧ (((↑l.length : Int) = (↑l.length : Int)) ∧ ((IntKind.i64.wrap ((↑x2 : Int) + (1 : Int)) = (↑x8 : Int)) ∧ ((List.take x2 l ++ [SV.int IntKind.i64 (elCell l x2 (0 : Nat)).toInt] = List.take x8 l) ∧ (((x8 ≤ l.length) ∧ ((l.length ≤ (60 : Nat)) ∧ ((in64 mode) ∧ (wfL [CK.int IntKind.i64] l)))) ∧ ((l.length - x8 < l.length - x2) ∧ (True)))))))))))) ∧ ((decide (IntKind.i64.wrap (sumS l x2 + (elCell l x2 (0 : Nat)).toInt) ≤ (1000000000000000 : Int)) = false) → (∃ (x9 : Nat), ((mode = mode) ∧ ((IntKind.i64.wrap (sumS l x2 + (elCell l x2 (0 : Nat)).toInt) = sumS l x9) ∧ ((exOk l x9 = false) ∧ ((l = l) ∧ (((↑l.length : Int) = (↑l.length : Int)) ∧ ((IntKind.i64.wrap ((↑x2 : Int) + (1 : Int)) = (↑x9 : Int)) ∧ ((List.take x2 l ++ [SV.int IntKind.i64 (elCell l x2 (0 : Nat)).toInt] = List.take x9 l) ∧ (((x9 ≤ l.length) ∧ ((l.length ≤ (60 : Nat)) ∧ ((in64 mode) ∧ (wfL [CK.int IntKind.i64] l)))) ∧ ((l.length - x9 < l.length - x2) ∧ (True)))))))))))))) ∧ ((exOk l x2 = false) → (∃ (x10 : Nat), ((mode = mode) ∧ ((sumS l x2 = sumS l x10) ∧ ((exOk l x2 = exOk l x10) ∧ ((l = l) ∧ (((↑l.length : Int) = (↑l.length : Int)) ∧ ((IntKind.i64.wrap ((↑x2 : Int) + (1 : Int)) = (↑x10 : Int)) ∧ ((List.take x2 l ++ [SV.int IntKind.i64 (elCell l x2 (0 : Nat)).toInt] = List.take x10 l) ∧ (((x10 ≤ l.length) ∧ ((l.length ≤ (60 : Nat)) ∧ ((in64 mode) ∧ (wfL [CK.int IntKind.i64] l)))) ∧ ((l.length - x10 < l.length - x2) ∧ (True)))))))))))))))))) ∧ ((decide ((↑x2 : Int) < (↑l.length : Int)) = false) → (Ob (((List.take x2 l).length ≤ (9000000000000000000 : Nat))) ∧ ((((!exOk l x2) = true) → (((decide (chkE (exOk (List.take x2 l) (List.take x2 l).length) = (10 : Int)) = true) → ((decide (eaddV (List.take x2 l) = (0 : Int)) = true) ∧ (True))) ∧ ((decide (chkE (exOk (List.take x2 l) (List.take x2 l).length) = (10 : Int)) = false) → ((true = false) ∧ (True))))) ∧ (((!exOk l x2) = false) → (Ob (((in64 (sumS l x2)) ∧ (in64 (10000 : Int)))) ∧ (((decide (chkE (exOk (List.take x2 l) (List.take x2 l).length) = (0 : Int)) = true) → (((decide (eaddV (List.take x2 l) = sumS l x2) = true) → (((decide (coinsV (eaddV (List.take x2 l)) mode = roundV (sumS l x2) (10000 : Int) mode) = true) → ((decide (coinsE (eaddV (List.take x2 l)) mode = rngE (roundB (10000 : Int) mode)) = true) ∧ (True))) ∧ ((decide (coinsV (eaddV (List.take x2 l)) mode = roundV (sumS l x2) (10000 : Int) mode) = false) → ((true = false) ∧ (True))))) ∧ ((decide (eaddV (List.take x2 l) = sumS l x2) = false) → ((true = false) ∧ (True))))) ∧ ((decide (chkE (exOk (List.take x2 l) (List.take x2 l).length) = (0 : Int)) = false) → ((true = false) ∧ (True))))))))))))))))) := by kernel_rfl
theorem sumS_ex {l : List SV} : ∀ {i : Nat}, exOk l i = true → sumS l i = exSum l i
  | 0, _ => rfl
  | i + 1, h => by
    simp only [exOk, Bool.and_eq_true] at h
    simp only [sumS, h.1.1, h.1.2, Bool.and_self, if_true]
theorem exSum_next {l : List SV} {i : Nat} (h : i < l.length) : exSum l (i + 1) = exSum l i + (ints l).getD i 0 := by
  unfold exSum
  rw [List.take_add_one, List.sum_append]
  have hl : i < (ints l).length := by rw [ints_length]; exact h
  simp [List.getD_eq_getElem?_getD, hl]
theorem take_next {l : List SV} (hw : wfL [.int .i64] l) {i : Nat} (h : i < l.length) : l.take i ++ [.int .i64 ((ints l).getD i 0)] = l.take (i + 1) := by
  obtain ⟨h1, h2, h3⟩ := wfL_ints hw
  rw [List.take_add_one]
  congr 1
  have hl : i < (ints l).length := by rw [ints_length]; exact h
  conv => rhs; rw [h1]
  simp [List.getD_eq_getElem?_getD, hl]
theorem exSum_in {l : List SV} {i : Nat} (h : exOk l i = true) : -1000000000000000 ≤ exSum l i ∧ exSum l i ≤ 1000000000000000 := by
  cases i with
  | zero => exact ⟨by show -1000000000000000 ≤ (0 : Int); omega, by show (0 : Int) ≤ 1000000000000000; omega⟩
  | succ k =>
    simp only [exOk, Bool.and_eq_true] at h
    exact exactB_iff.1 h.2

theorem fadds_known : Known Try.prog 7 faddsC := by
  refine known1 (nt := 93) (An := fun (l, mode) => (fadds_an mode l)) (labs := []) (lit := false) (em := em_fadds) sh_fadds_le (by kernel_rfl) mixedT tyT_ok (.cons parts_known (.cons eadd_known (.cons coins_known (.cons round_known .nil)))) Try.func7 (by kernel_rfl) (fun a => by obtain ⟨l, mode⟩ := a; kernel_rfl) (fun a => by obtain ⟨l, mode⟩ := a; rfl) (fun a ha => ?_)
  obtain ⟨l, mode⟩ := a
  replace ha : wfL [.int .i64] l ∧ in64 mode := ha.out
  refine Eq.mpr (vc_fadds l mode) ?_
  obtain ⟨hw, hm⟩ := ha
  have wl := fun i (h : i < l.length) => ints_get l i h
  simp only [Int.reduceLE, Int.reduceLT, Int.reduceEq, Int.reduceNe, Nat.reduceLeDiff, Nat.reduceEqDiff, beq_eq_false_iff_ne, beq_iff_eq, decide_eq_decide, ne_eq, eq_self, true_and, and_true, and_self, and_false, false_and, Bool.not_true, Bool.not_false, Bool.false_eq_true, Bool.true_eq_false, false_implies, true_implies, implies_true, imp_false, not_true, not_false_eq_true, decide_eq_true_eq, decide_eq_false_iff_not, Bool.not_eq_true', Bool.not_eq_false', Bool.and_eq_true, Classical.not_not, decide_true, decide_false, Bool.and_true, Bool.true_and, if_true, if_false, Ob_iff]
  intro h0
  refine ⟨⟨0, rfl, rfl, rfl, rfl, by omega, by omega, hm, hw⟩, fun i ⟨i1, i2, _, _⟩ => ⟨fun h1 => ⟨⟨by omega, by omega⟩, ⟨?_, ?_⟩, ?_⟩, fun h1 => ?_⟩⟩
  · simp only [List.length_take]; omega
  · simp only [List.length_take]; omega
  · have hi : i < l.length := by omega
    simp only [wl i hi]
    have tk := take_next hw hi
    have sn := exSum_next hi
    have nx : ∀ (S : Int) (b : Bool), S = sumS l (i + 1) → b = exOk l (i + 1) → ∃ x3 : Nat, S = sumS l x3 ∧ b = exOk l x3 ∧ IntKind.i64.wrap ((i : Int) + 1) = (x3 : Int) ∧ List.take i l ++ [SV.int .i64 ((ints l).getD i 0)] = List.take x3 l ∧
        (x3 ≤ l.length ∧ l.length ≤ 60 ∧ in64 mode ∧ wfL [.int .i64] l) ∧ l.length - x3 < l.length - i := fun S b e1 e2 =>
      ⟨i + 1, e1, e2, by rw [wrapI (by omega)]; rfl, tk, ⟨by omega, i2, hm, hw⟩, by omega⟩
    have nxf : ∀ (S : Int), S = sumS l (i + 1) → exOk l (i + 1) = false → ∃ x3 : Nat, S = sumS l x3 ∧ exOk l x3 = false ∧ IntKind.i64.wrap ((i : Int) + 1) = (x3 : Int) ∧ List.take i l ++ [SV.int .i64 ((ints l).getD i 0)] = List.take x3 l ∧
        (x3 ≤ l.length ∧ l.length ≤ 60 ∧ in64 mode ∧ wfL [.int .i64] l) ∧ l.length - x3 < l.length - i := fun S e1 e2 =>
      ⟨i + 1, e1, e2, by rw [wrapI (by omega)]; rfl, tk, ⟨by omega, i2, hm, hw⟩, by omega⟩
    have hS : sumS l (i + 1) = if exOk l i && exactB ((ints l).getD i 0) then exSum l (i + 1) else sumS l i := rfl
    have hO : exOk l (i + 1) = (exOk l i && exactB ((ints l).getD i 0) && exactB (exSum l (i + 1))) := rfl
    rw [sn] at hS hO
    generalize (ints l).getD i 0 = v at *
    cases he : exOk l i with
    | false =>
      rw [he] at hS hO
      simp only [Bool.false_and, Bool.false_eq_true, if_false] at hS hO
      simp only [Int.reduceLE, Int.reduceLT, Int.reduceEq, Int.reduceNe, Nat.reduceLeDiff, Nat.reduceEqDiff, beq_eq_false_iff_ne, beq_iff_eq, decide_eq_decide, ne_eq, eq_self, true_and, and_true, and_self, and_false, false_and, Bool.not_true, Bool.not_false, Bool.false_eq_true, Bool.true_eq_false, false_implies, true_implies, implies_true, imp_false, not_true, not_false_eq_true, decide_eq_true_eq, decide_eq_false_iff_not, Bool.not_eq_true', Bool.not_eq_false', Bool.and_eq_true, Classical.not_not, decide_true, decide_false, Bool.and_true, Bool.true_and, if_true, if_false, Ob_iff]
      exact nx _ _ hS.symm hO.symm
    | true =>
      have hin := exSum_in he
      have hse := sumS_ex he
      rw [he] at hS hO
      simp only [Bool.true_and] at hS hO
      rw [hse] at hS ⊢
      simp only [Int.reduceLE, Int.reduceLT, Int.reduceEq, Int.reduceNe, Nat.reduceLeDiff, Nat.reduceEqDiff, beq_eq_false_iff_ne, beq_iff_eq, decide_eq_decide, ne_eq, eq_self, true_and, and_true, and_self, and_false, false_and, Bool.not_true, Bool.not_false, Bool.false_eq_true, Bool.true_eq_false, false_implies, true_implies, implies_true, imp_false, not_true, not_false_eq_true, decide_eq_true_eq, decide_eq_false_iff_not, Bool.not_eq_true', Bool.not_eq_false', Bool.and_eq_true, Classical.not_not, decide_true, decide_false, Bool.and_true, Bool.true_and, if_true, if_false, Ob_iff]
      by_cases hv : exactB v = true
      · have hv1 := exactB_iff.1 hv
        rw [hv] at hS hO
        simp only [if_true, Bool.true_and] at hS hO
        rw [wrapI (n := exSum l i + v) (by omega)]
        refine ⟨fun h2 => ?_, fun h2 => ⟨fun h3 => ?_, fun h3 => ⟨fun h4 => ?_, fun h4 => ?_⟩⟩⟩
        · exfalso; omega
        · exfalso; omega
        · refine nx _ _ hS.symm ?_
          rw [hO]
          simp only [exactB, show exSum l i + v ≤ 1000000000000000 from h4, decide_true, Bool.and_true]
        · refine nxf _ hS.symm ?_
          rw [hO]
          simp only [exactB, decide_eq_false h4, Bool.and_false]
      · have hv0 : exactB v = false := by simpa using hv
        have hv1 : ¬ (-1000000000000000 ≤ v ∧ v ≤ 1000000000000000) := fun h => hv (exactB_iff.2 h)
        rw [hv0] at hS hO
        simp only [Bool.false_and, Bool.false_eq_true, if_false] at hS hO
        refine ⟨fun h2 => nxf _ hS.symm hO, fun h2 => ⟨fun h3 => nxf _ hS.symm hO, fun h3 => ?_⟩⟩
        exfalso; omega
  · have : i = l.length := by omega
    subst this
    rw [List.take_length]
    refine ⟨by omega, fun h => ?_, fun h => ?_⟩
    · simp [h, chkE, eaddV]
    · have hin := exSum_in h
      have hx : exactB (exSum l l.length) = true := exactB_iff.2 hin
      rw [sumS_ex h]
      have e : eaddV l = exSum l l.length := by simp [eaddV, h]
      rw [e, h]
      refine ⟨⟨⟨by omega, by omega⟩, ⟨by omega, by omega⟩⟩, ?_⟩
      have hE : coinsE (exSum l l.length) mode = rngE (modeB mode) := by simp [coinsE, hx]
      have hB : roundB 10000 mode = modeB mode := by simp [roundB]
      have hV : coinsV (exSum l l.length) mode = roundV (exSum l l.length) 10000 mode := by
        simp only [coinsV, roundV, hE, hB]
        cases modeB mode <;> simp [rngE]
      rw [hE, hB, hV]
      simp [chkE]

end Go.Rx
