/- Amounts: so many times one; multiples, and parts of no more than one. -/
import Derived.Test.YtcehjhdgdgkkgaaDoorMon2
import Derived.Test.YtcehjhdgdgkkgaaDoorFrac2
namespace Go.Rx
open Go.Proofs
set_option linter.unusedSimpArgs false
set_option linter.unusedVariables false

def tiE (x n : Int) : Int := if rightB x = true then (if (x.natAbs * n.natAbs : Nat) ≤ 100000000000 then 0 else 10) else 10
def tiV (x n : Int) : Int := if tiE x n = 0 then x * n else 0
def rt_an (x n : Int) : Nat → Option Ann
  | 0 => some ⟨Int × Int × Int, fun y => ⟨[(0, .int .i64 y.1), (1, .int .i64 y.2.1), (6, .bool (decide (x < 0) != decide (n < 0))), (7, .int .i64 y.2.2)], []⟩,
      fun y => y.2.2 + y.1 * y.2.1 = x.natAbs * n.natAbs ∧ x.natAbs * n.natAbs ≤ 100000000000 ∧ 0 < y.1 ∧ y.1 ≤ 200000000000 ∧ 0 ≤ y.2.1 ∧ y.2.1 ≤ 100000000000 ∧ 0 ≤ y.2.2 ∧ y.2.2 ≤ 100000000000, fun y => y.2.1.toNat, [0, 1, 6, 7], [], [], fun _ _ => none⟩
  | 4010 => some ⟨Unit, fun _ => ⟨[(0, .int .i64 x.natAbs), (1, .int .i64 n), (6, .bool (decide (x < 0)))], []⟩, fun _ => rightB x = true ∧ rightB n = true ∧ x ≠ 0 ∧ n ≠ 0, fun _ => 0, [0, 1, 6], [], [], fun _ _ => none⟩
  | 4012 => some ⟨Unit, fun _ => ⟨[(0, .int .i64 x.natAbs), (1, .int .i64 n.natAbs), (6, .bool (decide (x < 0) != decide (n < 0)))], []⟩, fun _ => rightB x = true ∧ rightB n = true ∧ x ≠ 0 ∧ n ≠ 0, fun _ => 0, [0, 1, 6], [], [], fun _ _ => none⟩
  | _ => none

theorem ti_yes {x n : Int} (h : rightB x = true) (hp : x.natAbs * n.natAbs ≤ 100000000000) : tiE x n = 0 ∧ tiV x n = x * n := by
  have e : tiE x n = 0 := by unfold tiE; rw [if_pos h, if_pos hp]
  exact ⟨e, by unfold tiV; rw [if_pos e]⟩
theorem ti_no {x n : Int} (h : rightB x = false ∨ ¬ x.natAbs * n.natAbs ≤ 100000000000) : 0 = tiV x n ∧ 10 = tiE x n := by
  have e : tiE x n = 10 := by
    unfold tiE
    rcases h with h | h
    · rw [h]; rfl
    · rw [if_neg h]; split <;> rfl
  exact ⟨by unfold tiV; rw [e]; rfl, e.symm⟩
theorem mul_sign {x n : Int} : x * n = if (x < 0 ↔ n < 0) then ((x.natAbs * n.natAbs : Nat) : Int) else -((x.natAbs * n.natAbs : Nat) : Int) := by
  have h1 : x = x.natAbs ∨ x = -(x.natAbs : Int) := by omega
  have h2 : n = n.natAbs ∨ n = -(n.natAbs : Int) := by omega
  by_cases hx : x < 0 <;> by_cases hn : n < 0
  · rw [if_pos (by simp [hx, hn])]
    have e1 : x = -(x.natAbs : Int) := by omega
    have e2 : n = -(n.natAbs : Int) := by omega
    rw [Int.natCast_mul]; conv => lhs; rw [e1, e2, Int.neg_mul_neg]
  · rw [if_neg (by simp [hx, hn])]
    have e1 : x = -(x.natAbs : Int) := by omega
    have e2 : n = (n.natAbs : Int) := by omega
    rw [Int.natCast_mul]; conv => lhs; rw [e1, e2, Int.neg_mul]
  · rw [if_neg (by simp [hx, hn])]
    have e1 : x = (x.natAbs : Int) := by omega
    have e2 : n = -(n.natAbs : Int) := by omega
    rw [Int.natCast_mul]; conv => lhs; rw [e1, e2, Int.mul_neg]
  · rw [if_pos (by simp [hx, hn])]
    have e1 : x = (x.natAbs : Int) := by omega
    have e2 : n = (n.natAbs : Int) := by omega
    rw [Int.natCast_mul]; conv => lhs; rw [e1, e2]


theorem ti_big {x n : Int} (hx : ¬ x = 0) (h : 100000000000 < n.natAbs) : ¬ x.natAbs * n.natAbs ≤ 100000000000 := by
  intro hc
  have h1 : 1 * n.natAbs ≤ x.natAbs * n.natAbs := Nat.mul_le_mul_right _ (by omega)
  omega



end Go.Rx
