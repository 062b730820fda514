/- Amounts: so many times one; multiples, and parts of no more than one. -/
import Derived.Test.YtgcleepiopmabaaDoorMon2
import Derived.Test.YtgcleepiopmabaaDoorFrac2
namespace Go.Rx
open Go.Proofs
set_option linter.unusedSimpArgs false
set_option linter.unusedVariables false

def tiE (x n : Int) : Int := if rightB x = true then (if (x.natAbs * n.natAbs : Nat) ≤ 100000000000 then 0 else 10) else 10
def tiV (x n : Int) : Int := if tiE x n = 0 then x * n else 0
def rt_an (x n : Int) : Nat → Option Ann
  | 0 => some ⟨Int × Int × Int, fun y => ⟨[(0, .int .i64 y.1), (1, .int .i64 y.2.1), (6, .bool (decide (x < 0) != decide (n < 0))), (7, .int .i64 y.2.2)], []⟩,
      fun y => y.2.2 + y.1 * y.2.1 = x.natAbs * n.natAbs ∧ x.natAbs * n.natAbs ≤ 100000000000 ∧ 0 < y.1 ∧ y.1 ≤ 200000000000 ∧ 0 ≤ y.2.1 ∧ y.2.1 ≤ 100000000000 ∧ 0 ≤ y.2.2 ∧ y.2.2 ≤ 100000000000, fun y => y.2.1.toNat, [0, 1, 6, 7], [], []⟩
  | 4010 => some ⟨Unit, fun _ => ⟨[(0, .int .i64 x.natAbs), (1, .int .i64 n), (6, .bool (decide (x < 0)))], []⟩, fun _ => rightB x = true ∧ rightB n = true ∧ x ≠ 0 ∧ n ≠ 0, fun _ => 0, [0, 1, 6], [], []⟩
  | 4012 => some ⟨Unit, fun _ => ⟨[(0, .int .i64 x.natAbs), (1, .int .i64 n.natAbs), (6, .bool (decide (x < 0) != decide (n < 0)))], []⟩, fun _ => rightB x = true ∧ rightB n = true ∧ x ≠ 0 ∧ n ≠ 0, fun _ => 0, [0, 1, 6], [], []⟩
  | _ => none

def sh_mtimes : List SV → Option (Int × Int)
  | [.int .i64 x, .int .i64 n] => some (x, n)
  | _ => none
def em_mtimes : Int × Int → List SV := fun (x, n) => [.int .i64 x, .int .i64 n]
theorem sh_mtimes_le : ∀ us a, sh_mtimes us = some a → leL us (em_mtimes a) := by
  intro us a h
  unfold sh_mtimes at h
  split at h
  · cases h; exact (.cons (.refl _) (.cons (.refl _) .nil))
  · cases h
def mtimesC : Con := conOf sh_mtimes (fun (x, n) => some (Ob (in64 x ∧ in64 n))) (fun (x, n) => .tup [.int .i64 (tiV x n), .int .i64 (tiE x n)])
set_option maxRecDepth 100000 in
theorem vc_mtimes (x : Int) (n : Int) : (wpF ⟨36, tyT, [(24, rightC), (18, mabsC), (42, mul64C)], false, 0, [], false⟩ (noAnn) [] Tryd.f28 (em_mtimes (x, n)) (.tup [.int .i64 (tiV x n), .int .i64 (tiE x n)])) = ((Ob (((1 : Nat) ≤ (9000000000000000000 : Nat))) ∧ ((((!rightL [SV.int IntKind.i64 x]) = true) → (((0 : Int) = tiV x n) ∧ (((10 : Int) = tiE x n) ∧ (True)))) ∧ (((!rightL [SV.int IntKind.i64 x]) = false) → (Ob ((in64 x)) ∧ (Ob ((in64 n)) ∧ (Ob (((inU (↑x.natAbs : Int)) ∧ (inU (↑n.natAbs : Int)))) ∧ (((decide ((0 : Int) < (↑x.natAbs : Int) * (↑n.natAbs : Int) / (18446744073709551616 : Int)) = true) → (((0 : Int) = tiV x n) ∧ (((10 : Int) = tiE x n) ∧ (True)))) ∧ ((decide ((0 : Int) < (↑x.natAbs : Int) * (↑n.natAbs : Int) / (18446744073709551616 : Int)) = false) → (((decide ((100000000000 : Int) < (↑x.natAbs : Int) * (↑n.natAbs : Int) % (18446744073709551616 : Int)) = true) → (((0 : Int) = tiV x n) ∧ (((10 : Int) = tiE x n) ∧ (True)))) ∧ ((decide ((100000000000 : Int) < (↑x.natAbs : Int) * (↑n.natAbs : Int) % (18446744073709551616 : Int)) = false) → ((((!decide (x < (0 : Int)) == decide (n < (0 : Int))) = true) → ((IntKind.i64.wrap ((0 : Int) - IntKind.i64.wrap ((↑x.natAbs : Int) * (↑n.natAbs : Int) % (18446744073709551616 : Int))) = tiV x n) ∧ (((0 : Int) = tiE x n) ∧ (True)))) ∧ (((!decide (x < (0 : Int)) == decide (n < (0 : Int))) = false) → ((IntKind.i64.wrap ((↑x.natAbs : Int) * (↑n.natAbs : Int) % (18446744073709551616 : Int)) = tiV x n) ∧ (((0 : Int) = tiE x n) ∧ (True)))))))))))))))) := by kernel_rfl
def sh_rtimes : List SV → Option (Int × Int)
  | [.int .i64 x, .int .i64 n] => some (x, n)
  | _ => none
def em_rtimes : Int × Int → List SV := fun (x, n) => [.int .i64 x, .int .i64 n]
theorem sh_rtimes_le : ∀ us a, sh_rtimes us = some a → leL us (em_rtimes a) := by
  intro us a h
  unfold sh_rtimes at h
  split at h
  · cases h; exact (.cons (.refl _) (.cons (.refl _) .nil))
  · cases h
def rtimesC : Con := conOf sh_rtimes (fun (x, n) => some (Ob (in64 x ∧ in64 n))) (fun (x, n) => .tup [.int .i64 (tiV x n), .int .i64 (tiE x n)])
set_option maxRecDepth 100000 in
theorem vc_rtimes (x : Int) (n : Int) : (wpF ⟨56, tyT, [(16, rrightC)], false, 0, [], false⟩ ((rt_an x n)) [] Tryd.f29 (em_rtimes (x, n)) (.tup [.int .i64 (tiV x n), .int .i64 (tiE x n)])) = (((((!rightB x) = true) → (((0 : Int) = tiV x n) ∧ (((10 : Int) = tiE x n) ∧ (True)))) ∧ (((!rightB x) = false) → (((decide (x = (0 : Int)) = true) → (((0 : Int) = tiV x n) ∧ (((0 : Int) = tiE x n) ∧ (True)))) ∧ ((decide (x = (0 : Int)) = false) → (((decide (n = (0 : Int)) = true) → (((0 : Int) = tiV x n) ∧ (((0 : Int) = tiE x n) ∧ (True)))) ∧ ((decide (n = (0 : Int)) = false) → (((decide ((100000000000 : Int) < n) = true) → (((0 : Int) = tiV x n) ∧ (((10 : Int) = tiE x n) ∧ (True)))) ∧ ((decide ((100000000000 : Int) < n) = false) → (((decide (n < (-100000000000 : Int)) = true) → (((0 : Int) = tiV x n) ∧ (((10 : Int) = tiE x n) ∧ (True)))) ∧ ((decide (n < (-100000000000 : Int)) = false) → ((((decide (x < (0 : Int)) = true) → (∃ (x1 : Unit), ((IntKind.i64.wrap ((0 : Int) - x) = (↑x.natAbs : Int)) ∧ ((n = n) ∧ ((decide (x < (0 : Int)) = true) ∧ (((rightB x = true) ∧ ((rightB n = true) ∧ ((x ≠ (0 : Int)) ∧ (n ≠ (0 : Int))))) ∧ ((True) ∧ (True)))))))) ∧ ((decide (x < (0 : Int)) = false) → (∃ (x2 : Unit), ((x = (↑x.natAbs : Int)) ∧ ((n = n) ∧ ((decide (x < (0 : Int)) = false) ∧ (((rightB x = true) ∧ ((rightB n = true) ∧ ((x ≠ (0 : Int)) ∧ (n ≠ (0 : Int))))) ∧ ((True) ∧ (True))))))))) ∧ (∀ (x3 : Unit), (((rightB x = true) ∧ ((rightB n = true) ∧ ((x ≠ (0 : Int)) ∧ (n ≠ (0 : Int))))) → ((((decide (n < (0 : Int)) = true) → (∃ (x4 : Unit), (((↑x.natAbs : Int) = (↑x.natAbs : Int)) ∧ ((IntKind.i64.wrap ((0 : Int) - n) = (↑n.natAbs : Int)) ∧ (((!decide (x < (0 : Int))) = (decide (x < (0 : Int)) != decide (n < (0 : Int)))) ∧ (((rightB x = true) ∧ ((rightB n = true) ∧ ((x ≠ (0 : Int)) ∧ (n ≠ (0 : Int))))) ∧ ((True) ∧ (True)))))))) ∧ ((decide (n < (0 : Int)) = false) → (∃ (x5 : Unit), (((↑x.natAbs : Int) = (↑x.natAbs : Int)) ∧ ((n = (↑n.natAbs : Int)) ∧ ((decide (x < (0 : Int)) = (decide (x < (0 : Int)) != decide (n < (0 : Int)))) ∧ (((rightB x = true) ∧ ((rightB n = true) ∧ ((x ≠ (0 : Int)) ∧ (n ≠ (0 : Int))))) ∧ ((True) ∧ (True))))))))) ∧ (∀ (x6 : Unit), (((rightB x = true) ∧ ((rightB n = true) ∧ ((x ≠ (0 : Int)) ∧ (n ≠ (0 : Int))))) → (Ob (((↑x.natAbs : Int) ≠ (0 : Int))) ∧ (((decide (IntKind.i64.wrap (Int.tdiv (100000000000 : Int) (↑x.natAbs : Int)) < (↑n.natAbs : Int)) = true) → (((0 : Int) = tiV x n) ∧ (((10 : Int) = tiE x n) ∧ (True)))) ∧ ((decide (IntKind.i64.wrap (Int.tdiv (100000000000 : Int) (↑x.natAbs : Int)) < (↑n.natAbs : Int)) = false) → ((∃ (x7 : Int × Int × Int), (((↑x.natAbs : Int) = x7.fst) ∧ (((↑n.natAbs : Int) = x7.snd.fst) ∧ (((decide (x < (0 : Int)) != decide (n < (0 : Int))) = (decide (x < (0 : Int)) != decide (n < (0 : Int)))) ∧ (((0 : Int) = x7.snd.snd) ∧ (((x7.snd.snd + x7.fst * x7.snd.fst = (↑x.natAbs : Int) * (↑n.natAbs : Int)) ∧ ((x.natAbs * n.natAbs ≤ (100000000000 : Nat)) ∧ (((0 : Int) < x7.fst) ∧ ((x7.fst ≤ (200000000000 : Int)) ∧ (((0 : Int) ≤ x7.snd.fst) ∧ ((x7.snd.fst ≤ (100000000000 : Int)) ∧ (((0 : Int) ≤ x7.snd.snd) ∧ (x7.snd.snd ≤ (100000000000 : Int))))))))) ∧ ((True) ∧ (True)))))))) ∧ (∀ (x8 : Int × Int × Int), (((x8.snd.snd + x8.fst * x8.snd.fst = (↑x.natAbs : Int) * (↑n.natAbs : Int)) ∧ ((x.natAbs * n.natAbs ≤ (100000000000 : Nat)) ∧ (((0 : Int) < x8.fst) ∧ ((x8.fst ≤ (200000000000 : Int)) ∧ (((0 : Int) ≤ x8.snd.fst) ∧ ((x8.snd.fst ≤ (100000000000 : Int)) ∧ (((0 : Int) ≤ x8.snd.snd) ∧ (x8.snd.snd ≤ (100000000000 : Int))))))))) → (((decide ((0 : Int) < x8.snd.fst) = true) → (Ob (((2 : Int) ≠ (0 : Int))) ∧ (((decide (x8.snd.fst.tmod (2 : Int) = (1 : Int)) = true) → (Ob (((2 : Int) ≠ (0 : Int))) ∧ (∃ (x9 : Int × Int × Int), ((IntKind.i64.wrap (x8.fst + x8.fst) = x9.fst) ∧ ((IntKind.i64.wrap (x8.snd.fst.tdiv (2 : Int)) = x9.snd.fst) ∧ (((decide (x < (0 : Int)) != decide (n < (0 : Int))) = (decide (x < (0 : Int)) != decide (n < (0 : Int)))) ∧ ((IntKind.i64.wrap (x8.snd.snd + x8.fst) = x9.snd.snd) ∧ (((x9.snd.snd + x9.fst * x9.snd.fst = (↑x.natAbs : Int) * (↑n.natAbs : Int)) ∧ ((x.natAbs * n.natAbs ≤ (100000000000 : Nat)) ∧ (((0 : Int) < x9.fst) ∧ ((x9.fst ≤ (200000000000 : Int)) ∧ (((0 : Int) ≤ x9.snd.fst) ∧ ((x9.snd.fst ≤ (100000000000 : Int)) ∧ (((0 : Int) ≤ x9.snd.snd) ∧ (x9.snd.snd ≤ (100000000000 : Int))))))))) ∧ ((x9.snd.fst.toNat < x8.snd.fst.toNat) ∧ (True)))))))))) ∧ ((decide (x8.snd.fst.tmod (2 : Int) = (1 : Int)) = false) → (Ob (((2 : Int) ≠ (0 : Int))) ∧ (∃ (x10 : Int × Int × Int), ((IntKind.i64.wrap (x8.fst + x8.fst) = x10.fst) ∧ ((IntKind.i64.wrap (x8.snd.fst.tdiv (2 : Int)) = x10.snd.fst) ∧ (((decide (x < (0 : Int)) != decide (n < (0 : Int))) = (decide (x < (0 : Int)) != decide (n < (0 : Int)))) ∧ ((x8.snd.snd = x10.snd.snd) ∧ (((x10.snd.snd + x10.fst * x10.snd.fst = (↑x.natAbs : Int) * (↑n.natAbs : Int)) ∧ ((x.natAbs * n.natAbs ≤ (100000000000 : Nat)) ∧ (((0 : Int) < x10.fst) ∧ ((x10.fst ≤ (200000000000 : Int)) ∧ (((0 : Int) ≤ x10.snd.fst) ∧ ((x10.snd.fst ≤ (100000000000 : Int)) ∧ (((0 : Int) ≤ x10.snd.snd) ∧ (x10.snd.snd ≤ (100000000000 : Int))))))))) ∧ ((x10.snd.fst.toNat < x8.snd.fst.toNat) ∧ (True))))))))))))) ∧ ((decide ((0 : Int) < x8.snd.fst) = false) → ((((decide (x < (0 : Int)) != decide (n < (0 : Int))) = true) → ((IntKind.i64.wrap ((0 : Int) - x8.snd.snd) = tiV x n) ∧ (((0 : Int) = tiE x n) ∧ (True)))) ∧ (((decide (x < (0 : Int)) != decide (n < (0 : Int))) = false) → ((x8.snd.snd = tiV x n) ∧ (((0 : Int) = tiE x n) ∧ (True)))))))))))))))))))))))))))))) := by kernel_rfl
def sh_ltimes : List SV → Option (Int × Int)
  | [.int .i64 x, .int .i64 n] => some (x, n)
  | _ => none
def em_ltimes : Int × Int → List SV := fun (x, n) => [.int .i64 x, .int .i64 n]
theorem sh_ltimes_le : ∀ us a, sh_ltimes us = some a → leL us (em_ltimes a) := by
  intro us a h
  unfold sh_ltimes at h
  split at h
  · cases h; exact (.cons (.refl _) (.cons (.refl _) .nil))
  · cases h
def ltimesC : Con := conOf sh_ltimes (fun (x, n) => some (Ob (in64 x ∧ in64 n))) (fun (x, n) => .bool true)
set_option maxRecDepth 100000 in
theorem vc_ltimes (x : Int) (n : Int) : (wpF ⟨31, tyT, [(12, ccountsC), (28, mtimesC), (29, rtimesC)], false, 0, [], false⟩ (noAnn) [] Tryd.f9 (em_ltimes (x, n)) (.bool true)) = (((((!true) = true) → ((true = false) ∧ (True))) ∧ (((!true) = false) → (Ob (((in64 x) ∧ (in64 n))) ∧ (Ob (((in64 x) ∧ (in64 n))) ∧ (((decide (tiV x n = tiV x n) = true) → ((decide (tiE x n = tiE x n) = true) ∧ (True))) ∧ ((decide (tiV x n = tiV x n) = false) → ((true = false) ∧ (True))))))))) := by kernel_rfl
theorem ti_yes {x n : Int} (h : rightB x = true) (hp : x.natAbs * n.natAbs ≤ 100000000000) : tiE x n = 0 ∧ tiV x n = x * n := by
  have e : tiE x n = 0 := by unfold tiE; rw [if_pos h, if_pos hp]
  exact ⟨e, by unfold tiV; rw [if_pos e]⟩
theorem ti_no {x n : Int} (h : rightB x = false ∨ ¬ x.natAbs * n.natAbs ≤ 100000000000) : 0 = tiV x n ∧ 10 = tiE x n := by
  have e : tiE x n = 10 := by
    unfold tiE
    rcases h with h | h
    · rw [h]; rfl
    · rw [if_neg h]; split <;> rfl
  exact ⟨by unfold tiV; rw [e]; rfl, e.symm⟩
theorem mul_sign {x n : Int} : x * n = if (x < 0 ↔ n < 0) then ((x.natAbs * n.natAbs : Nat) : Int) else -((x.natAbs * n.natAbs : Nat) : Int) := by
  have h1 : x = x.natAbs ∨ x = -(x.natAbs : Int) := by omega
  have h2 : n = n.natAbs ∨ n = -(n.natAbs : Int) := by omega
  by_cases hx : x < 0 <;> by_cases hn : n < 0
  · rw [if_pos (by simp [hx, hn])]
    have e1 : x = -(x.natAbs : Int) := by omega
    have e2 : n = -(n.natAbs : Int) := by omega
    rw [Int.natCast_mul]; conv => lhs; rw [e1, e2, Int.neg_mul_neg]
  · rw [if_neg (by simp [hx, hn])]
    have e1 : x = -(x.natAbs : Int) := by omega
    have e2 : n = (n.natAbs : Int) := by omega
    rw [Int.natCast_mul]; conv => lhs; rw [e1, e2, Int.neg_mul]
  · rw [if_neg (by simp [hx, hn])]
    have e1 : x = (x.natAbs : Int) := by omega
    have e2 : n = -(n.natAbs : Int) := by omega
    rw [Int.natCast_mul]; conv => lhs; rw [e1, e2, Int.mul_neg]
  · rw [if_pos (by simp [hx, hn])]
    have e1 : x = (x.natAbs : Int) := by omega
    have e2 : n = (n.natAbs : Int) := by omega
    rw [Int.natCast_mul]; conv => lhs; rw [e1, e2]

theorem mtimes_known : Known Tryd.prog 28 mtimesC := by
  refine known1 (nt := 36) (An := fun (x, n) => noAnn) (labs := []) (lit := false) (em := em_mtimes) sh_mtimes_le (by kernel_rfl) mixedT tyT_ok (.cons right_known (.cons mabs_known (.cons mul64_known .nil))) Tryd.func28 (by kernel_rfl) (fun a => by obtain ⟨x, n⟩ := a; kernel_rfl) (fun a => by obtain ⟨x, n⟩ := a; rfl) (fun a ha => ?_)
  obtain ⟨x, n⟩ := a
  replace ha : in64 x ∧ in64 n := ha.out
  refine ⟨_, vc_mtimes x n, ?_⟩
  obtain ⟨⟨x1, x2⟩, n1, n2⟩ := ha
  have e : rightL [.int .i64 x] = rightB x := by simp [rightL, ints, elCell, SV.cells, SV.toInt]
  rw [e]
  simp only [Int.reduceLE, Int.reduceLT, Int.reduceEq, Int.reduceNe, Nat.reduceLeDiff, Nat.reduceEqDiff, beq_eq_false_iff_ne, beq_iff_eq, decide_eq_decide, ne_eq, eq_self, true_and, and_true, and_self, and_false, false_and, Bool.not_true, Bool.not_false, Bool.false_eq_true, Bool.true_eq_false, false_implies, true_implies, implies_true, imp_false, not_true, not_false_eq_true, decide_eq_true_eq, decide_eq_false_iff_not, Bool.not_eq_true', Bool.not_eq_false', Bool.and_eq_true, Classical.not_not, decide_true, decide_false, Bool.and_true, Bool.true_and, if_true, if_false, Ob_iff]
  refine ⟨fun h => ti_no (.inl h), fun h => ?_⟩
  have b := rightB_iff.1 h
  have hm : (x.natAbs : Int) * (n.natAbs : Int) = ((x.natAbs * n.natAbs : Nat) : Int) := (Int.natCast_mul _ _).symm
  have ms := @mul_sign x n
  rw [hm]
  have hle : x.natAbs * n.natAbs ≤ 100000000000 * 9223372036854775808 := Nat.mul_le_mul (by omega) (by omega)
  generalize hq : x.natAbs * n.natAbs = q at *
  refine ⟨⟨x1, x2⟩, ⟨n1, n2⟩, ⟨⟨by omega, by omega⟩, by omega, by omega⟩, fun h1 => ti_no (.inr (by omega)), fun h1 => ⟨fun h2 => ti_no (.inr (by omega)), fun h2 => ?_⟩⟩
  have e3 : (q : Int) % 18446744073709551616 = q := by omega
  obtain ⟨t1, t2⟩ := ti_yes (n := n) h (by omega)
  rw [e3, t1, t2, ms]
  refine ⟨fun h3 => ?_, fun h3 => ?_⟩
  · rw [if_neg h3, wrapI (n := (q : Int)) (by omega), wrapI (by omega)]; omega
  · rw [if_pos h3, wrapI (by omega)]; exact ⟨rfl, rfl⟩

theorem ti_big {x n : Int} (hx : ¬ x = 0) (h : 100000000000 < n.natAbs) : ¬ x.natAbs * n.natAbs ≤ 100000000000 := by
  intro hc
  have h1 : 1 * n.natAbs ≤ x.natAbs * n.natAbs := Nat.mul_le_mul_right _ (by omega)
  omega

theorem rtimes_known : Known Tryd.prog 29 rtimesC := by
  refine known1 (nt := 56) (An := fun (x, n) => (rt_an x n)) (labs := []) (lit := false) (em := em_rtimes) sh_rtimes_le (by kernel_rfl) mixedT tyT_ok (.cons rright_known .nil) Tryd.func29 (by kernel_rfl) (fun a => by obtain ⟨x, n⟩ := a; kernel_rfl) (fun a => by obtain ⟨x, n⟩ := a; rfl) (fun a ha => ?_)
  obtain ⟨x, n⟩ := a
  replace ha : in64 x ∧ in64 n := ha.out
  refine ⟨_, vc_rtimes x n, ?_⟩
  obtain ⟨⟨x1, x2⟩, n1, n2⟩ := ha
  simp only [Int.reduceLE, Int.reduceLT, Int.reduceEq, Int.reduceNe, Nat.reduceLeDiff, Nat.reduceEqDiff, beq_eq_false_iff_ne, beq_iff_eq, decide_eq_decide, ne_eq, eq_self, true_and, and_true, and_self, and_false, false_and, Bool.not_true, Bool.not_false, Bool.false_eq_true, Bool.true_eq_false, false_implies, true_implies, implies_true, imp_false, not_true, not_false_eq_true, decide_eq_true_eq, decide_eq_false_iff_not, Bool.not_eq_true', Bool.not_eq_false', Bool.and_eq_true, Classical.not_not, decide_true, decide_false, Bool.and_true, Bool.true_and, if_true, if_false, Ob_iff]
  refine ⟨fun h => ti_no (.inl h), fun h => ⟨fun h0 => ?_, fun hx => ⟨fun h0 => ?_, fun hn => ⟨fun h1 => ti_no (.inr (ti_big hx (by omega))), fun h1 => ⟨fun h2 => ti_no (.inr (ti_big hx (by omega))), fun h2 => ?_⟩⟩⟩⟩⟩
  · subst h0
    obtain ⟨t1, t2⟩ := ti_yes (n := n) h (by simp)
    rw [t1, t2]; simp
  · subst h0
    obtain ⟨t1, t2⟩ := ti_yes (n := 0) h (by simp)
    rw [t1, t2]; simp
  · have hn' : rightB n = true := rightB_iff.2 (by omega)
    have b := rightB_iff.1 h
    have hF : rightB x = true ∧ rightB n = true ∧ ¬ x = 0 ∧ ¬ n = 0 := ⟨h, hn', hx, hn⟩
    refine ⟨⟨fun hl => ⟨(), by rw [wrapI (by omega)]; omega, hl, hF⟩, fun hl => ⟨(), by omega, hl, hF⟩⟩, fun _ _ => ⟨⟨fun hl => ⟨(), by rw [wrapI (by omega)]; omega, by simp [hl], hF⟩, fun hl => ⟨(), by omega, by simp [hl], hF⟩⟩, fun _ _ => ?_⟩⟩
    have hm : (x.natAbs : Int) * (n.natAbs : Int) = ((x.natAbs * n.natAbs : Nat) : Int) := (Int.natCast_mul _ _).symm
    have ms := @mul_sign x n
    have hX : 0 < x.natAbs := by omega
    have hN : 0 < n.natAbs := by omega
    have hXm : x.natAbs ≤ 100000000000 := by omega
    have hNm : n.natAbs ≤ 100000000000 := by omega
    have hd : Int.tdiv 100000000000 (x.natAbs : Int) = ((100000000000 / x.natAbs : Nat) : Int) := by
      rw [Int.tdiv_eq_ediv_of_nonneg (by decide)]; rfl
    have hdl : 100000000000 / x.natAbs ≤ 100000000000 := Nat.div_le_self _ _
    have hiff : n.natAbs ≤ 100000000000 / x.natAbs ↔ x.natAbs * n.natAbs ≤ 100000000000 := by
      rw [Nat.le_div_iff_mul_le hX, Nat.mul_comm]
    rw [hd]
    generalize 100000000000 / x.natAbs = D at *
    rw [wrapI (by omega)]
    refine ⟨by omega, fun h3 => ti_no (.inr (fun hc => by have := hiff.2 hc; omega)), fun h3 => ?_⟩
    have hle : x.natAbs * n.natAbs ≤ 100000000000 := hiff.1 (by omega)
    obtain ⟨t1, t2⟩ := ti_yes (n := n) h hle
    rw [t1, t2, ms, hm]
    have hiffs : (decide (x < 0) != decide (n < 0)) = false ↔ (x < 0 ↔ n < 0) := by
      by_cases hx0 : x < 0 <;> by_cases hn0 : n < 0 <;> simp [hx0, hn0]
    refine ⟨⟨(x.natAbs, n.natAbs, 0), rfl, rfl, rfl, by dsimp only; rw [hm]; omega, hle, by dsimp only; omega, by dsimp only; omega, by dsimp only; omega, by dsimp only; omega, by dsimp only; omega, by dsimp only; omega⟩, fun y hy => ?_⟩
    obtain ⟨u, v, o⟩ := y
    dsimp only at hy ⊢
    obtain ⟨y1, y2, y3, y4, y5, y6, y7, y8⟩ := hy
    generalize x.natAbs * n.natAbs = q at *
    refine ⟨fun hv => ?_, fun hv => ?_⟩
    · have hmul : u * 1 ≤ u * v := Int.mul_le_mul_of_nonneg_left (by omega) (by omega)
      have hm2 : v.tmod 2 = v % 2 := Int.tmod_eq_emod_of_nonneg (by omega)
      have hd2 : v.tdiv 2 = v / 2 := Int.tdiv_eq_ediv_of_nonneg (by omega)
      rw [hm2, hd2]
      have hsp : u * v = 2 * (u * (v / 2)) + u * (v % 2) := by
        have e : v = 2 * (v / 2) + v % 2 := by omega
        conv => lhs; rw [e, Int.mul_add, ← Int.mul_assoc, Int.mul_comm u 2, Int.mul_assoc]
      have hab : (u + u) * (v / 2) = 2 * (u * (v / 2)) := by rw [Int.add_mul]; omega
      have hnn : 0 ≤ u * (v / 2) := Int.mul_nonneg (by omega) (by omega)
      refine ⟨fun h5 => ?_, fun h5 => ?_⟩
      · rw [h5, Int.mul_one] at hsp
        refine ⟨(u + u, v / 2, o + u), by rw [wrapI (by omega)], by rw [wrapI (by omega)], by rw [wrapI (by omega)], ⟨?_, y2, by dsimp only; omega, by dsimp only; omega, by dsimp only; omega, by dsimp only; omega, by dsimp only; omega, by dsimp only; omega⟩, by dsimp only; omega⟩
        dsimp only; rw [hab]; omega
      · have h5' : v % 2 = 0 := by omega
        rw [h5', Int.mul_zero] at hsp
        refine ⟨(u + u, v / 2, o), by rw [wrapI (by omega)], by rw [wrapI (by omega)], rfl, ⟨?_, y2, by dsimp only; omega, by dsimp only; omega, by dsimp only; omega, by dsimp only; omega, by dsimp only; omega, by dsimp only; omega⟩, by dsimp only; omega⟩
        dsimp only; rw [hab]; omega
    · have hv0 : v = 0 := by omega
      rw [hv0, Int.mul_zero, Int.add_zero] at y1
      refine ⟨fun h5 => ?_, fun h5 => ?_⟩
      · rw [if_neg (fun hc => by rw [hiffs.2 hc] at h5; cases h5), wrapI (by omega)]
        exact ⟨by omega, rfl⟩
      · rw [if_pos (hiffs.1 h5)]; exact ⟨y1, rfl⟩

theorem ltimes_known : Known Tryd.prog 9 ltimesC := by
  refine known1 (nt := 31) (An := fun (x, n) => noAnn) (labs := []) (lit := false) (em := em_ltimes) sh_ltimes_le (by kernel_rfl) mixedT tyT_ok (.cons ccounts_known (.cons mtimes_known (.cons rtimes_known .nil))) Tryd.func9 (by kernel_rfl) (fun a => by obtain ⟨x, n⟩ := a; kernel_rfl) (fun a => by obtain ⟨x, n⟩ := a; rfl) (fun a ha => ?_)
  obtain ⟨x, n⟩ := a
  replace ha : in64 x ∧ in64 n := ha.out
  refine ⟨_, vc_ltimes x n, ?_⟩
  simp only [Int.reduceLE, Int.reduceLT, Int.reduceEq, Int.reduceNe, Nat.reduceLeDiff, Nat.reduceEqDiff, beq_eq_false_iff_ne, beq_iff_eq, decide_eq_decide, ne_eq, eq_self, true_and, and_true, and_self, and_false, false_and, Bool.not_true, Bool.not_false, Bool.false_eq_true, Bool.true_eq_false, false_implies, true_implies, implies_true, imp_false, not_true, not_false_eq_true, decide_eq_true_eq, decide_eq_false_iff_not, Bool.not_eq_true', Bool.not_eq_false', Bool.and_eq_true, Classical.not_not, decide_true, decide_false, Bool.and_true, Bool.true_and, if_true, if_false, Ob_iff]
  exact ha

end Go.Rx
