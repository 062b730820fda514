/- Amounts: which there may be; one and another one together; a whole quotient and what is left of it. -/
import Derived.Test.YtepacdklieigfaaDoorSb
namespace Go.Rx
open Go.Proofs
set_option linter.unusedSimpArgs false

/-- May an amount be? -/
def rightB (x : Int) : Bool := decide (-100000000000 ≤ x) && decide (x ≤ 100000000000)
def rightL (l : List SV) : Bool := (ints l).all rightB
def chkV (x : Int) : Int := if rightB x = true then x else 0
def chkE (b : Bool) : Int := if b = true then 0 else 10
def right_an (l : List SV) : Nat → Option Ann
  | 0 => some ⟨Nat, fun i => ⟨[(5, .sl [.int .i64] l), (6, .int .i64 l.length), (7, .int .i64 i)], []⟩, fun i => i ≤ l.length ∧ l.length ≤ 9000000000000000000 ∧ ((ints l).take i).all rightB = true, fun i => l.length - i, [5, 6, 7], [], [], fun _ _ => none⟩
  | _ => none

def addB (x y : Int) : Bool := rightB x && rightB y && rightB (x + y)
def addV (x y : Int) : Int := if addB x y = true then x + y else 0
def subB (x y : Int) : Bool := rightB x && rightB y && rightB (x - y)
def subV (x y : Int) : Int := if subB x y = true then x - y else 0

theorem rightB_iff {x : Int} : rightB x = true ↔ -100000000000 ≤ x ∧ x ≤ 100000000000 := by simp [rightB]
theorem rightB_no {x : Int} : rightB x = false ↔ ¬ (-100000000000 ≤ x ∧ x ≤ 100000000000) := by rw [← rightB_iff]; simp
theorem all_take {α : Type} (p : α → Bool) (l : List α) (d : α) (i : Nat) (h : i < l.length) : (l.take (i + 1)).all p = ((l.take i).all p && p (l.getD i d)) := by
  rw [List.take_add_one, List.all_append]
  simp [List.getD_eq_getElem?_getD, h]
theorem all_of {α : Type} (p : α → Bool) (l : List α) (d : α) (i : Nat) (h : i < l.length) (hp : p (l.getD i d) = false) : l.all p = false := by
  rw [Bool.eq_false_iff]
  intro hc
  rw [List.all_eq_true] at hc
  have := hc (l.getD i d) (by simp [List.getD_eq_getElem?_getD, h])
  rw [hp] at this
  cases this




