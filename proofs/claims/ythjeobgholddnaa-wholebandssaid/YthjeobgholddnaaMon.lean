/- Amounts: which there may be; one and another one together; a whole quotient and what is left of it. -/
import Derived.Test.YthjeobgholddnaaSb
namespace Go.Rx
open Go.Proofs
set_option linter.unusedSimpArgs false

/-- May an amount be? -/
def rightB (x : Int) : Bool := decide (-100000000000 ≤ x) && decide (x ≤ 100000000000)
def rightL (l : List SV) : Bool := (ints l).all rightB
def chkV (x : Int) : Int := if rightB x = true then x else 0
def chkE (b : Bool) : Int := if b = true then 0 else 10
def right_an (l : List SV) : Nat → Option Ann
  | 0 => some ⟨Nat, fun i => ⟨[(5, .sl [.int .i64] l), (6, .int .i64 l.length), (7, .int .i64 i)], []⟩, fun i => i ≤ l.length ∧ l.length ≤ 9000000000000000000 ∧ ((ints l).take i).all rightB = true, fun i => l.length - i, [5, 6, 7], [], [], fun _ _ => none⟩
  | _ => none

def addB (x y : Int) : Bool := rightB x && rightB y && rightB (x + y)
def addV (x y : Int) : Int := if addB x y = true then x + y else 0
def subB (x y : Int) : Bool := rightB x && rightB y && rightB (x - y)
def subV (x y : Int) : Int := if subB x y = true then x - y else 0

def sh_right : List SV → Option (List SV)
  | [l'] => (match slOf [.int .i64] l' with | some l => some l | _ => none)
  | _ => none
def em_right : List SV → List SV := fun l => [.sl [.int .i64] l]
theorem sh_right_le : ∀ us a, sh_right us = some a → leL us (em_right a) := by
  intro us a h
  unfold sh_right at h
  split at h
  · split at h
    · cases h; exact (.cons (.sl (by assumption)) .nil)
    · cases h
  · cases h
def rightC : Con := conOf sh_right (fun l => some (Ob (l.length ≤ 9000000000000000000))) (fun l => .bool (rightL l))
set_option maxRecDepth 100000 in
theorem vc_right (l : List SV) : (wpF ⟨18, tyT, [], false, 0, [], false⟩ ((right_an l)) [] Try.f29 (em_right l) (.bool (rightL l))) = (((∃ (x1 : Nat), ((l = l) ∧ (((↑l.length : Int) = (↑l.length : Int)) ∧ (((0 : Int) = (↑x1 : Int)) ∧ (((x1 ≤ l.length) ∧ ((l.length ≤ (9000000000000000000 : Nat)) ∧ ((List.take x1 (ints l)).all rightB = true))) ∧ ((True) ∧ (True))))))) ∧ (∀ (x2 : Nat), (((x2 ≤ l.length) ∧ ((l.length ≤ (9000000000000000000 : Nat)) ∧ ((List.take x2 (ints l)).all rightB = true))) → (((decide ((↑x2 : Int) < (↑l.length : Int)) = true) → (Ob ((((0 : Int) ≤ (↑x2 : Int)) ∧ ((↑x2 : Int) < (↑l.length : Int)))) ∧ (((decide ((100000000000 : Int) < (elCell l x2 (0 : Nat)).toInt) = true) → ((rightL l = false) ∧ (True))) ∧ ((decide ((100000000000 : Int) < (elCell l x2 (0 : Nat)).toInt) = false) → (((decide ((elCell l x2 (0 : Nat)).toInt < (-100000000000 : Int)) = true) → ((rightL l = false) ∧ (True))) ∧ ((decide ((elCell l x2 (0 : Nat)).toInt < (-100000000000 : Int)) = false) → (∃ (x3 : Nat), ((l = l) ∧ (((↑l.length : Int) = (↑l.length : Int)) ∧ ((IntKind.i64.wrap ((↑x2 : Int) + (1 : Int)) = (↑x3 : Int)) ∧ (((x3 ≤ l.length) ∧ ((l.length ≤ (9000000000000000000 : Nat)) ∧ ((List.take x3 (ints l)).all rightB = true))) ∧ ((l.length - x3 < l.length - x2) ∧ (True))))))))))))) ∧ ((decide ((↑x2 : Int) < (↑l.length : Int)) = false) → ((rightL l = true) ∧ (True)))))))) := by kernel_rfl
theorem rightB_iff {x : Int} : rightB x = true ↔ -100000000000 ≤ x ∧ x ≤ 100000000000 := by simp [rightB]
theorem rightB_no {x : Int} : rightB x = false ↔ ¬ (-100000000000 ≤ x ∧ x ≤ 100000000000) := by rw [← rightB_iff]; simp
theorem all_take {α : Type} (p : α → Bool) (l : List α) (d : α) (i : Nat) (h : i < l.length) : (l.take (i + 1)).all p = ((l.take i).all p && p (l.getD i d)) := by
  rw [List.take_add_one, List.all_append]
  simp [List.getD_eq_getElem?_getD, h]
theorem all_of {α : Type} (p : α → Bool) (l : List α) (d : α) (i : Nat) (h : i < l.length) (hp : p (l.getD i d) = false) : l.all p = false := by
  rw [Bool.eq_false_iff]
  intro hc
  rw [List.all_eq_true] at hc
  have := hc (l.getD i d) (by simp [List.getD_eq_getElem?_getD, h])
  rw [hp] at this
  cases this

theorem right_known : Known Try.prog 29 rightC := by
  refine known1 (nt := 18) (An := fun l => (right_an l)) (labs := []) (lit := false) (em := em_right) sh_right_le (by kernel_rfl) mixedT tyT_ok .nil Try.func29 (by kernel_rfl) (fun a => by kernel_rfl) (fun a => by rfl) (fun l ha => ?_)
  replace ha : l.length ≤ 9000000000000000000 := ha.out
  refine ⟨_, vc_right l, ?_⟩
  refine ⟨⟨0, rfl, rfl, rfl, ⟨by omega, ha, rfl⟩, trivial, trivial⟩, fun i hi => ⟨fun h1 => ⟨⟨by omega, by simpa using h1⟩, fun h2 => ⟨?_, trivial⟩, fun h2 => ⟨fun h3 => ⟨?_, trivial⟩, fun h3 => ⟨i + 1, rfl, rfl, ?_, ⟨?_, ha, ?_⟩, ?_, trivial⟩⟩⟩, fun h1 => ⟨?_, trivial⟩⟩⟩
  all_goals simp only [decide_eq_true_eq, decide_eq_false_iff_not] at *
  · have hl : i < (ints l).length := by rw [ints_length]; omega
    rw [ints_get l i (by omega)] at h2
    exact all_of rightB _ 0 i hl (rightB_no.2 (by omega))
  · have hl : i < (ints l).length := by rw [ints_length]; omega
    rw [ints_get l i (by omega)] at h3
    exact all_of rightB _ 0 i hl (rightB_no.2 (by omega))
  · rw [wrapI (by omega)]; rfl
  · omega
  · have hl : i < (ints l).length := by rw [ints_length]; omega
    rw [ints_get l i (by omega)] at h2 h3
    rw [all_take rightB _ 0 i hl, hi.2.2, rightB_iff.2 (by omega)]; rfl
  · omega
  · have := hi.2.2
    rw [List.take_of_length_le (by rw [ints_length]; omega)] at this
    exact this



