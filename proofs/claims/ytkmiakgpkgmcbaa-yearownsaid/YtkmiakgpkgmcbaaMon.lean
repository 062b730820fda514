/- Amounts: which there may be; one and another one together; a whole quotient and what is left of it. -/
import Derived.Test.YtkmiakgpkgmcbaaSb
namespace Go.Rx
open Go.Proofs
set_option linter.unusedSimpArgs false

/-- May an amount be? -/
def rightB (x : Int) : Bool := decide (-100000000000 ≤ x) && decide (x ≤ 100000000000)
def rightL (l : List SV) : Bool := (ints l).all rightB
def chkV (x : Int) : Int := if rightB x = true then x else 0
def chkE (b : Bool) : Int := if b = true then 0 else 10
def right_an (l : List SV) : Nat → Option Ann
  | 0 => some ⟨Nat, fun i => ⟨[(5, .sl [.int .i64] l), (6, .int .i64 l.length), (7, .int .i64 i)], []⟩, fun i => i ≤ l.length ∧ l.length ≤ 9000000000000000000 ∧ ((ints l).take i).all rightB = true, fun i => l.length - i, [5, 6, 7], [], [], fun _ _ => none⟩
  | _ => none

def addB (x y : Int) : Bool := rightB x && rightB y && rightB (x + y)
def addV (x y : Int) : Int := if addB x y = true then x + y else 0
def subB (x y : Int) : Bool := rightB x && rightB y && rightB (x - y)
def subV (x y : Int) : Int := if subB x y = true then x - y else 0

def sh_right : List SV → Option (List SV)
  | [l'] => (match slOf [.int .i64] l' with | some l => some l | _ => none)
  | _ => none
def em_right : List SV → List SV := fun l => [.sl [.int .i64] l]
theorem sh_right_le : ∀ us a, sh_right us = some a → leL us (em_right a) := by
  intro us a h
  unfold sh_right at h
  split at h
  · split at h
    · cases h; exact (.cons (.sl (by assumption)) .nil)
    · cases h
  · cases h
def rightC : Con := conOf sh_right (fun l => some (Ob (l.length ≤ 9000000000000000000))) (fun l => .bool (rightL l))
set_option maxRecDepth 100000 in
theorem vc_right (l : List SV) : (wpF ⟨18, tyT, [], false, 0, [], false⟩ ((right_an l)) [] Try.f28 (em_right l) (.bool (rightL l))) = (((∃ (x1 : Nat), ((l = l) ∧ (((↑l.length : Int) = (↑l.length : Int)) ∧ (((0 : Int) = (↑x1 : Int)) ∧ (((x1 ≤ l.length) ∧ ((l.length ≤ (9000000000000000000 : Nat)) ∧ ((List.take x1 (ints l)).all rightB = true))) ∧ ((True) ∧ (True))))))) ∧ (∀ (x2 : Nat), (((x2 ≤ l.length) ∧ ((l.length ≤ (9000000000000000000 : Nat)) ∧ ((List.take x2 (ints l)).all rightB = true))) → (((decide ((↑x2 : Int) < (↑l.length : Int)) = true) → (Ob ((((0 : Int) ≤ (↑x2 : Int)) ∧ ((↑x2 : Int) < (↑l.length : Int)))) ∧ (((decide ((100000000000 : Int) < (elCell l x2 (0 : Nat)).toInt) = true) → ((rightL l = false) ∧ (True))) ∧ ((decide ((100000000000 : Int) < (elCell l x2 (0 : Nat)).toInt) = false) → (((decide ((elCell l x2 (0 : Nat)).toInt < (-100000000000 : Int)) = true) → ((rightL l = false) ∧ (True))) ∧ ((decide ((elCell l x2 (0 : Nat)).toInt < (-100000000000 : Int)) = false) → (∃ (x3 : Nat), ((l = l) ∧ (((↑l.length : Int) = (↑l.length : Int)) ∧ ((IntKind.i64.wrap ((↑x2 : Int) + (1 : Int)) = (↑x3 : Int)) ∧ (((x3 ≤ l.length) ∧ ((l.length ≤ (9000000000000000000 : Nat)) ∧ ((List.take x3 (ints l)).all rightB = true))) ∧ ((l.length - x3 < l.length - x2) ∧ (True))))))))))))) ∧ ((decide ((↑x2 : Int) < (↑l.length : Int)) = false) → ((rightL l = true) ∧ (True)))))))) := by kernel_rfl
def sh_check : List SV → Option (Int)
  | [.int .i64 x] => some x
  | _ => none
def em_check : Int → List SV := fun x => [.int .i64 x]
theorem sh_check_le : ∀ us a, sh_check us = some a → leL us (em_check a) := by
  intro us a h
  unfold sh_check at h
  split at h
  · cases h; exact (.cons (.refl _) .nil)
  · cases h
def checkC : Con := conOf sh_check (fun _ => none) (fun x => .tup [.int .i64 (chkV x), .int .i64 (chkE (rightB x))])
set_option maxRecDepth 100000 in
theorem vc_check (x : Int) : (wpF ⟨9, tyT, [(28, rightC)], false, 0, [], false⟩ (noAnn) [] Try.f43 (em_check x) (.tup [.int .i64 (chkV x), .int .i64 (chkE (rightB x))])) = ((Ob (((1 : Nat) ≤ (9000000000000000000 : Nat))) ∧ ((((!rightL [SV.int IntKind.i64 x]) = true) → (((0 : Int) = chkV x) ∧ (((10 : Int) = chkE (rightB x)) ∧ (True)))) ∧ (((!rightL [SV.int IntKind.i64 x]) = false) → ((x = chkV x) ∧ (((0 : Int) = chkE (rightB x)) ∧ (True))))))) := by kernel_rfl
def sh_madd : List SV → Option (Int × Int)
  | [.int .i64 x, .int .i64 y] => some (x, y)
  | _ => none
def em_madd : Int × Int → List SV := fun (x, y) => [.int .i64 x, .int .i64 y]
theorem sh_madd_le : ∀ us a, sh_madd us = some a → leL us (em_madd a) := by
  intro us a h
  unfold sh_madd at h
  split at h
  · cases h; exact (.cons (.refl _) (.cons (.refl _) .nil))
  · cases h
def maddC : Con := conOf sh_madd (fun _ => none) (fun (x, y) => .tup [.int .i64 (addV x y), .int .i64 (chkE (addB x y))])
set_option maxRecDepth 100000 in
theorem vc_madd (x : Int) (y : Int) : (wpF ⟨17, tyT, [(28, rightC), (43, checkC)], false, 0, [], false⟩ (noAnn) [] Try.f39 (em_madd (x, y)) (.tup [.int .i64 (addV x y), .int .i64 (chkE (addB x y))])) = ((Ob (((2 : Nat) ≤ (9000000000000000000 : Nat))) ∧ ((((!rightL [SV.int IntKind.i64 x, SV.int IntKind.i64 y]) = true) → (((0 : Int) = addV x y) ∧ (((10 : Int) = chkE (addB x y)) ∧ (True)))) ∧ (((!rightL [SV.int IntKind.i64 x, SV.int IntKind.i64 y]) = false) → ((chkV (IntKind.i64.wrap (x + y)) = addV x y) ∧ ((chkE (rightB (IntKind.i64.wrap (x + y))) = chkE (addB x y)) ∧ (True))))))) := by kernel_rfl
theorem rightB_iff {x : Int} : rightB x = true ↔ -100000000000 ≤ x ∧ x ≤ 100000000000 := by simp [rightB]
theorem rightB_no {x : Int} : rightB x = false ↔ ¬ (-100000000000 ≤ x ∧ x ≤ 100000000000) := by rw [← rightB_iff]; simp
theorem all_take {α : Type} (p : α → Bool) (l : List α) (d : α) (i : Nat) (h : i < l.length) : (l.take (i + 1)).all p = ((l.take i).all p && p (l.getD i d)) := by
  rw [List.take_add_one, List.all_append]
  simp [List.getD_eq_getElem?_getD, h]
theorem all_of {α : Type} (p : α → Bool) (l : List α) (d : α) (i : Nat) (h : i < l.length) (hp : p (l.getD i d) = false) : l.all p = false := by
  rw [Bool.eq_false_iff]
  intro hc
  rw [List.all_eq_true] at hc
  have := hc (l.getD i d) (by simp [List.getD_eq_getElem?_getD, h])
  rw [hp] at this
  cases this

theorem right_known : Known Try.prog 28 rightC := by
  refine known1 (nt := 18) (An := fun l => (right_an l)) (labs := []) (lit := false) (em := em_right) sh_right_le (by kernel_rfl) mixedT tyT_ok .nil Try.func28 (by kernel_rfl) (fun a => by kernel_rfl) (fun a => by rfl) (fun l ha => ?_)
  replace ha : l.length ≤ 9000000000000000000 := ha.out
  refine ⟨_, vc_right l, ?_⟩
  refine ⟨⟨0, rfl, rfl, rfl, ⟨by omega, ha, rfl⟩, trivial, trivial⟩, fun i hi => ⟨fun h1 => ⟨⟨by omega, by simpa using h1⟩, fun h2 => ⟨?_, trivial⟩, fun h2 => ⟨fun h3 => ⟨?_, trivial⟩, fun h3 => ⟨i + 1, rfl, rfl, ?_, ⟨?_, ha, ?_⟩, ?_, trivial⟩⟩⟩, fun h1 => ⟨?_, trivial⟩⟩⟩
  all_goals simp only [decide_eq_true_eq, decide_eq_false_iff_not] at *
  · have hl : i < (ints l).length := by rw [ints_length]; omega
    rw [ints_get l i (by omega)] at h2
    exact all_of rightB _ 0 i hl (rightB_no.2 (by omega))
  · have hl : i < (ints l).length := by rw [ints_length]; omega
    rw [ints_get l i (by omega)] at h3
    exact all_of rightB _ 0 i hl (rightB_no.2 (by omega))
  · rw [wrapI (by omega)]; rfl
  · omega
  · have hl : i < (ints l).length := by rw [ints_length]; omega
    rw [ints_get l i (by omega)] at h2 h3
    rw [all_take rightB _ 0 i hl, hi.2.2, rightB_iff.2 (by omega)]; rfl
  · omega
  · have := hi.2.2
    rw [List.take_of_length_le (by rw [ints_length]; omega)] at this
    exact this

theorem check_known : Known Try.prog 43 checkC := by
  refine known1 (nt := 9) (An := fun x => noAnn) (labs := []) (lit := false) (em := em_check) sh_check_le (by kernel_rfl) mixedT tyT_ok (.cons right_known .nil) Try.func43 (by kernel_rfl) (fun a => by kernel_rfl) (fun a => by rfl) (fun x ha => ?_)
  refine ⟨_, vc_check x, ?_⟩
  have e : rightL [.int .i64 x] = rightB x := by simp [rightL, ints, elCell, SV.cells, SV.toInt]
  repeat' first | exact trivial | with_reducible rfl | apply And.intro | apply Ob.mk | intro _
  all_goals simp_all [chkV, chkE]

theorem madd_known : Known Try.prog 39 maddC := by
  refine known1 (nt := 17) (An := fun (x, y) => noAnn) (labs := []) (lit := false) (em := em_madd) sh_madd_le (by kernel_rfl) mixedT tyT_ok (.cons right_known (.cons check_known .nil)) Try.func39 (by kernel_rfl) (fun a => by obtain ⟨x, y⟩ := a; kernel_rfl) (fun a => by obtain ⟨x, y⟩ := a; rfl) (fun a ha => ?_)
  obtain ⟨x, y⟩ := a
  refine ⟨_, vc_madd x y, ?_⟩
  have e : rightL [.int .i64 x, .int .i64 y] = (rightB x && rightB y) := by simp [rightL, ints, elCell, SV.cells, SV.toInt]
  refine ⟨⟨by omega⟩, ?_⟩
  rw [e]
  cases hx : rightB x with
  | false => simp [addV, addB, chkE, hx]
  | true => cases hy : rightB y with
    | false => simp [addV, addB, chkE, hx, hy]
    | true =>
      have h1 := rightB_iff.1 hx
      have h2 := rightB_iff.1 hy
      rw [wrapI (by omega)]
      simp [addV, addB, chkE, chkV, hx, hy]


end Go.Rx
