/- Bands: the laws on bands of a part of the year, and on like bands joined. -/
import Derived.Test.YtmlcppbkfddioaaBand3
namespace Go.Rx
open Go.Proofs
set_option linter.unusedSimpArgs false
set_option linter.unusedVariables false

def scB (n d : Int) (l : List SV) (i : Nat) : SV := bOfS (partS (bd l i 0) n d) (bd l i 1) (bd l i 2)
/-- Does a band stay in a part of the year? -/
def keepB (n d : Int) (l : List SV) (i : Nat) : Bool := !(decide (i + 1 < l.length) && decide (partS (bd l (i + 1) 0) n d = partS (bd l i 0) n d))
def kN (n d : Int) (l : List SV) : Nat → List SV
  | 0 => []
  | i + 1 => if keepB n d l i = true then kN n d l i ++ [scB n d l i] else kN n d l i
def bscales_an (n d : Int) (l : List SV) : Nat → Option Ann
  | 0 => some ⟨Nat, fun i => ⟨[(0, .sl bandK l), (1, .int .i64 n), (2, .int .i64 d), (7, .sl bandK (scS n d l)), (9, .int .i64 (kN n d l i).length), (61, .sl bandK l), (62, .int .i64 l.length), (63, .int .i64 i)], []⟩, fun i => i ≤ l.length ∧ checkS l = 0 ∧ scaleOk n d = true ∧ in64 n ∧ in64 d, fun i => l.length - i, [0, 1, 2, 7, 9, 61, 62, 63], [], []⟩
  | _ => none
def bjoins_an (l : List SV) (x : Int) : Nat → Option Ann
  | 0 => some ⟨Nat, fun i => ⟨[(0, .sl bandK l), (1, .int .i64 x), (5, .sl bandK (joinS l)), (6, .int .i64 i)], []⟩, fun i => 1 ≤ i ∧ i ≤ (joinS l).length, fun i => (joinS l).length - i, [0, 1, 5, 6], [], []⟩
  | 2 => some ⟨Nat, fun i => ⟨[(0, .sl bandK l), (1, .int .i64 x), (5, .sl bandK (joinS l)), (7, .sl [.int .i64] (cornS l)), (83, .sl bandK (l.drop 1)), (84, .int .i64 (l.drop 1).length), (85, .int .i64 i)], []⟩, fun i => i + 1 ≤ l.length, fun i => l.length - i, [0, 1, 5, 7, 83, 84, 85], [], []⟩
  | _ => none
def sh_bscales : List SV → Option ((List SV) × Int × Int)
  | [l', .int .i64 n, .int .i64 d] => (match slOf [.int .i64, .int .i64, .int .i64] l' with | some l => some (l, n, d) | none => none)
  | _ => none
def em_bscales : (List SV) × Int × Int → List SV := fun (l, n, d) => [.sl [.int .i64, .int .i64, .int .i64] l, .int .i64 n, .int .i64 d]
theorem sh_bscales_le : ∀ us a, sh_bscales us = some a → leL us (em_bscales a) := by
  intro us a h
  unfold sh_bscales at h
  split at h
  · split at h
    · cases h; exact (.cons (.sl (by assumption)) (.cons (.refl _) (.cons (.refl _) .nil)))
    · cases h
  · cases h
def bscalesC : Con := conOf sh_bscales (fun (l, n, d) => some (Ob (wfL [.int .i64, .int .i64, .int .i64] l ∧ in64 n ∧ in64 d))) (fun (l, n, d) => .bool true)
set_option maxRecDepth 100000 in
theorem vc_bscales (l : List SV) (n : Int) (d : Int) : (wpF ⟨115, tyT, [(9, sumsC), (10, rbcheckC), (14, bscaleC), (13, bcheckC), (20, rbpartC)], false⟩ ((bscales_an n d l)) [] Try.f6 (em_bscales (l, n, d)) (.bool true)) = (((((!true) = true) → ((true = false) ∧ (True))) ∧ (((!true) = false) → ((((!decide (checkS l = (0 : Int))) = true) → ((true = true) ∧ (True))) ∧ (((!decide (checkS l = (0 : Int))) = false) → (Ob (((in64 n) ∧ (in64 d))) ∧ (((decide (n < (0 : Int)) = true) → (((decide (scE n d l = (1 : Int)) = true) → ((decide ((↑(scS n d l).length : Int) = (0 : Int)) = true) ∧ (True))) ∧ ((decide (scE n d l = (1 : Int)) = false) → ((true = false) ∧ (True))))) ∧ ((decide (n < (0 : Int)) = false) → (((decide (d < (1 : Int)) = true) → (((decide (scE n d l = (1 : Int)) = true) → ((decide ((↑(scS n d l).length : Int) = (0 : Int)) = true) ∧ (True))) ∧ ((decide (scE n d l = (1 : Int)) = false) → ((true = false) ∧ (True))))) ∧ ((decide (d < (1 : Int)) = false) → (((decide (d < n) = true) → (((decide (scE n d l = (1 : Int)) = true) → ((decide ((↑(scS n d l).length : Int) = (0 : Int)) = true) ∧ (True))) ∧ ((decide (scE n d l = (1 : Int)) = false) → ((true = false) ∧ (True))))) ∧ ((decide (d < n) = false) → (((decide ((1048576 : Int) < d) = true) → (((decide (scE n d l = (1 : Int)) = true) → ((decide ((↑(scS n d l).length : Int) = (0 : Int)) = true) ∧ (True))) ∧ ((decide (scE n d l = (1 : Int)) = false) → ((true = false) ∧ (True))))) ∧ ((decide ((1048576 : Int) < d) = false) → ((((!decide (scE n d l = (0 : Int))) = true) → ((true = false) ∧ (True))) ∧ (((!decide (scE n d l = (0 : Int))) = false) → ((((!decide (checkS (scS n d l) = (0 : Int))) = true) → ((true = false) ∧ (True))) ∧ (((!decide (checkS (scS n d l) = (0 : Int))) = false) → (((decide ((↑l.length : Int) < (↑(scS n d l).length : Int)) = true) → ((true = false) ∧ (True))) ∧ ((decide ((↑l.length : Int) < (↑(scS n d l).length : Int)) = false) → ((∃ (x1 : Nat), ((l = l) ∧ ((n = n) ∧ ((d = d) ∧ ((scS n d l = scS n d l) ∧ (((0 : Int) = (↑(kN n d l x1).length : Int)) ∧ ((l = l) ∧ (((↑l.length : Int) = (↑l.length : Int)) ∧ (((0 : Int) = (↑x1 : Int)) ∧ (((x1 ≤ l.length) ∧ ((checkS l = (0 : Int)) ∧ ((scaleOk n d = true) ∧ ((in64 n) ∧ (in64 d))))) ∧ ((True) ∧ (True)))))))))))) ∧ (∀ (x2 : Nat), (((x2 ≤ l.length) ∧ ((checkS l = (0 : Int)) ∧ ((scaleOk n d = true) ∧ ((in64 n) ∧ (in64 d))))) → (((decide ((↑x2 : Int) < (↑l.length : Int)) = true) → (Ob ((((0 : Int) ≤ (↑x2 : Int)) ∧ ((↑x2 : Int) < (↑l.length : Int)))) ∧ (Ob ((((0 : Int) ≤ (elCell l x2 (0 : Nat)).toInt) ∧ (((elCell l x2 (0 : Nat)).toInt ≤ (100000000000 : Int)) ∧ (((0 : Int) ≤ n) ∧ ((n ≤ d) ∧ (((1 : Int) ≤ d) ∧ (d ≤ (1048576 : Int)))))))) ∧ (((decide (IntKind.i64.wrap ((↑x2 : Int) + (1 : Int)) < (↑l.length : Int)) = true) → (Ob ((((0 : Int) ≤ IntKind.i64.wrap ((↑x2 : Int) + (1 : Int))) ∧ (IntKind.i64.wrap ((↑x2 : Int) + (1 : Int)) < (↑l.length : Int)))) ∧ (Ob ((((0 : Int) ≤ (elCell l (IntKind.i64.wrap ((↑x2 : Int) + (1 : Int))).toNat (0 : Nat)).toInt) ∧ (((elCell l (IntKind.i64.wrap ((↑x2 : Int) + (1 : Int))).toNat (0 : Nat)).toInt ≤ (100000000000 : Int)) ∧ (((0 : Int) ≤ n) ∧ ((n ≤ d) ∧ (((1 : Int) ≤ d) ∧ (d ≤ (1048576 : Int)))))))) ∧ (((decide (partS (elCell l (IntKind.i64.wrap ((↑x2 : Int) + (1 : Int))).toNat (0 : Nat)).toInt n d = partS (elCell l x2 (0 : Nat)).toInt n d) = true) → (∃ (x3 : Nat), ((l = l) ∧ ((n = n) ∧ ((d = d) ∧ ((scS n d l = scS n d l) ∧ (((↑(kN n d l x2).length : Int) = (↑(kN n d l x3).length : Int)) ∧ ((l = l) ∧ (((↑l.length : Int) = (↑l.length : Int)) ∧ ((IntKind.i64.wrap ((↑x2 : Int) + (1 : Int)) = (↑x3 : Int)) ∧ (((x3 ≤ l.length) ∧ ((checkS l = (0 : Int)) ∧ ((scaleOk n d = true) ∧ ((in64 n) ∧ (in64 d))))) ∧ ((l.length - x3 < l.length - x2) ∧ (True))))))))))))) ∧ ((decide (partS (elCell l (IntKind.i64.wrap ((↑x2 : Int) + (1 : Int))).toNat (0 : Nat)).toInt n d = partS (elCell l x2 (0 : Nat)).toInt n d) = false) → (((decide ((↑(scS n d l).length : Int) ≤ (↑(kN n d l x2).length : Int)) = true) → ((true = false) ∧ (True))) ∧ ((decide ((↑(scS n d l).length : Int) ≤ (↑(kN n d l x2).length : Int)) = false) → (Ob ((((0 : Int) ≤ (↑(kN n d l x2).length : Int)) ∧ ((↑(kN n d l x2).length : Int) < (↑(scS n d l).length : Int)))) ∧ ((((!(decide ((elCell (scS n d l) (kN n d l x2).length (0 : Nat)).toInt = partS (elCell l x2 (0 : Nat)).toInt n d) && (decide ((elCell (scS n d l) (kN n d l x2).length (1 : Nat)).toInt = (elCell l x2 (1 : Nat)).toInt) && decide ((elCell (scS n d l) (kN n d l x2).length (2 : Nat)).toInt = (elCell l x2 (2 : Nat)).toInt)))) = true) → ((true = false) ∧ (True))) ∧ (((!(decide ((elCell (scS n d l) (kN n d l x2).length (0 : Nat)).toInt = partS (elCell l x2 (0 : Nat)).toInt n d) && (decide ((elCell (scS n d l) (kN n d l x2).length (1 : Nat)).toInt = (elCell l x2 (1 : Nat)).toInt) && decide ((elCell (scS n d l) (kN n d l x2).length (2 : Nat)).toInt = (elCell l x2 (2 : Nat)).toInt)))) = false) → (∃ (x4 : Nat), ((l = l) ∧ ((n = n) ∧ ((d = d) ∧ ((scS n d l = scS n d l) ∧ ((IntKind.i64.wrap ((↑(kN n d l x2).length : Int) + (1 : Int)) = (↑(kN n d l x4).length : Int)) ∧ ((l = l) ∧ (((↑l.length : Int) = (↑l.length : Int)) ∧ ((IntKind.i64.wrap ((↑x2 : Int) + (1 : Int)) = (↑x4 : Int)) ∧ (((x4 ≤ l.length) ∧ ((checkS l = (0 : Int)) ∧ ((scaleOk n d = true) ∧ ((in64 n) ∧ (in64 d))))) ∧ ((l.length - x4 < l.length - x2) ∧ (True)))))))))))))))))))))) ∧ ((decide (IntKind.i64.wrap ((↑x2 : Int) + (1 : Int)) < (↑l.length : Int)) = false) → (((decide ((↑(scS n d l).length : Int) ≤ (↑(kN n d l x2).length : Int)) = true) → ((true = false) ∧ (True))) ∧ ((decide ((↑(scS n d l).length : Int) ≤ (↑(kN n d l x2).length : Int)) = false) → (Ob ((((0 : Int) ≤ (↑(kN n d l x2).length : Int)) ∧ ((↑(kN n d l x2).length : Int) < (↑(scS n d l).length : Int)))) ∧ ((((!(decide ((elCell (scS n d l) (kN n d l x2).length (0 : Nat)).toInt = partS (elCell l x2 (0 : Nat)).toInt n d) && (decide ((elCell (scS n d l) (kN n d l x2).length (1 : Nat)).toInt = (elCell l x2 (1 : Nat)).toInt) && decide ((elCell (scS n d l) (kN n d l x2).length (2 : Nat)).toInt = (elCell l x2 (2 : Nat)).toInt)))) = true) → ((true = false) ∧ (True))) ∧ (((!(decide ((elCell (scS n d l) (kN n d l x2).length (0 : Nat)).toInt = partS (elCell l x2 (0 : Nat)).toInt n d) && (decide ((elCell (scS n d l) (kN n d l x2).length (1 : Nat)).toInt = (elCell l x2 (1 : Nat)).toInt) && decide ((elCell (scS n d l) (kN n d l x2).length (2 : Nat)).toInt = (elCell l x2 (2 : Nat)).toInt)))) = false) → (∃ (x5 : Nat), ((l = l) ∧ ((n = n) ∧ ((d = d) ∧ ((scS n d l = scS n d l) ∧ ((IntKind.i64.wrap ((↑(kN n d l x2).length : Int) + (1 : Int)) = (↑(kN n d l x5).length : Int)) ∧ ((l = l) ∧ (((↑l.length : Int) = (↑l.length : Int)) ∧ ((IntKind.i64.wrap ((↑x2 : Int) + (1 : Int)) = (↑x5 : Int)) ∧ (((x5 ≤ l.length) ∧ ((checkS l = (0 : Int)) ∧ ((scaleOk n d = true) ∧ ((in64 n) ∧ (in64 d))))) ∧ ((l.length - x5 < l.length - x2) ∧ (True)))))))))))))))))))))) ∧ ((decide ((↑x2 : Int) < (↑l.length : Int)) = false) → ((decide ((↑(kN n d l x2).length : Int) = (↑(scS n d l).length : Int)) = true) ∧ (True))))))))))))))))))))))))))) := by kernel_rfl
def sh_bjoins : List SV → Option ((List SV) × Int)
  | [l', .int .i64 x] => (match slOf [.int .i64, .int .i64, .int .i64] l' with | some l => some (l, x) | none => none)
  | _ => none
def em_bjoins : (List SV) × Int → List SV := fun (l, x) => [.sl [.int .i64, .int .i64, .int .i64] l, .int .i64 x]
theorem sh_bjoins_le : ∀ us a, sh_bjoins us = some a → leL us (em_bjoins a) := by
  intro us a h
  unfold sh_bjoins at h
  split at h
  · split at h
    · cases h; exact (.cons (.sl (by assumption)) (.cons (.refl _) .nil))
    · cases h
  · cases h
def bjoinsC : Con := conOf sh_bjoins (fun (l, x) => some (Ob (wfL [.int .i64, .int .i64, .int .i64] l ∧ in64 x))) (fun (l, x) => .bool true)
set_option maxRecDepth 100000 in
theorem vc_bjoins (l : List SV) (x : Int) : (wpF ⟨122, tyT, [(9, sumsC), (10, rbcheckC), (21, bjoinC), (22, bsameC), (19, btopC), (23, bcornC), (15, rbexactC)], false⟩ ((bjoins_an l x)) [] Try.f7 (em_bjoins (l, x)) (.bool true)) = (((((!true) = true) → ((true = false) ∧ (True))) ∧ (((!true) = false) → ((((!decide (checkS l = (0 : Int))) = true) → ((true = true) ∧ (True))) ∧ (((!decide (checkS l = (0 : Int))) = false) → (((decide ((100000000000 : Int) < x) = true) → ((true = true) ∧ (True))) ∧ ((decide ((100000000000 : Int) < x) = false) → (((decide (x < (-100000000000 : Int)) = true) → ((true = true) ∧ (True))) ∧ ((decide (x < (-100000000000 : Int)) = false) → (Ob ((l.length ≤ (1000 : Nat))) ∧ (Ob (((l.length ≤ (1000 : Nat)) ∧ ((joinS l).length ≤ (1000 : Nat)))) ∧ ((((!rowsEq (joinS l) (joinS (joinS l))) = true) → ((true = false) ∧ (True))) ∧ (((!rowsEq (joinS l) (joinS (joinS l))) = false) → (((decide ((↑(joinS l).length : Int) = (0 : Int)) = true) → ((true = false) ∧ (True))) ∧ ((decide ((↑(joinS l).length : Int) = (0 : Int)) = false) → (((decide ((↑l.length : Int) < (↑(joinS l).length : Int)) = true) → ((true = false) ∧ (True))) ∧ ((decide ((↑l.length : Int) < (↑(joinS l).length : Int)) = false) → (Ob (((joinS l).length ≤ (1000 : Nat))) ∧ (Ob ((l.length ≤ (1000 : Nat))) ∧ ((((!decide (topS (joinS l) = topS l)) = true) → ((true = false) ∧ (True))) ∧ (((!decide (topS (joinS l) = topS l)) = false) → ((∃ (x1 : Nat), ((l = l) ∧ ((x = x) ∧ ((joinS l = joinS l) ∧ (((1 : Int) = (↑x1 : Int)) ∧ ((((1 : Nat) ≤ x1) ∧ (x1 ≤ (joinS l).length)) ∧ ((True) ∧ (True)))))))) ∧ (∀ (x2 : Nat), ((((1 : Nat) ≤ x2) ∧ (x2 ≤ (joinS l).length)) → (((decide ((↑x2 : Int) < (↑(joinS l).length : Int)) = true) → (Ob ((((0 : Int) ≤ (↑x2 : Int)) ∧ ((↑x2 : Int) < (↑(joinS l).length : Int)))) ∧ (Ob ((((0 : Int) ≤ IntKind.i64.wrap ((↑x2 : Int) - (1 : Int))) ∧ (IntKind.i64.wrap ((↑x2 : Int) - (1 : Int)) < (↑(joinS l).length : Int)))) ∧ (((decide ((elCell (joinS l) x2 (1 : Nat)).toInt = (elCell (joinS l) (IntKind.i64.wrap ((↑x2 : Int) - (1 : Int))).toNat (1 : Nat)).toInt) = true) → (Ob ((((0 : Int) ≤ (↑x2 : Int)) ∧ ((↑x2 : Int) < (↑(joinS l).length : Int)))) ∧ (Ob ((((0 : Int) ≤ IntKind.i64.wrap ((↑x2 : Int) - (1 : Int))) ∧ (IntKind.i64.wrap ((↑x2 : Int) - (1 : Int)) < (↑(joinS l).length : Int)))) ∧ (((decide ((elCell (joinS l) x2 (2 : Nat)).toInt = (elCell (joinS l) (IntKind.i64.wrap ((↑x2 : Int) - (1 : Int))).toNat (2 : Nat)).toInt) = true) → ((true = false) ∧ (True))) ∧ ((decide ((elCell (joinS l) x2 (2 : Nat)).toInt = (elCell (joinS l) (IntKind.i64.wrap ((↑x2 : Int) - (1 : Int))).toNat (2 : Nat)).toInt) = false) → (∃ (x3 : Nat), ((l = l) ∧ ((x = x) ∧ ((joinS l = joinS l) ∧ ((IntKind.i64.wrap ((↑x2 : Int) + (1 : Int)) = (↑x3 : Int)) ∧ ((((1 : Nat) ≤ x3) ∧ (x3 ≤ (joinS l).length)) ∧ (((joinS l).length - x3 < (joinS l).length - x2) ∧ (True))))))))))))) ∧ ((decide ((elCell (joinS l) x2 (1 : Nat)).toInt = (elCell (joinS l) (IntKind.i64.wrap ((↑x2 : Int) - (1 : Int))).toNat (1 : Nat)).toInt) = false) → (∃ (x4 : Nat), ((l = l) ∧ ((x = x) ∧ ((joinS l = joinS l) ∧ ((IntKind.i64.wrap ((↑x2 : Int) + (1 : Int)) = (↑x4 : Int)) ∧ ((((1 : Nat) ≤ x4) ∧ (x4 ≤ (joinS l).length)) ∧ (((joinS l).length - x4 < (joinS l).length - x2) ∧ (True))))))))))))) ∧ ((decide ((↑x2 : Int) < (↑(joinS l).length : Int)) = false) → (Ob ((l.length ≤ (1000 : Nat))) ∧ (Ob ((((0 : Int) ≤ (1 : Int)) ∧ ((1 : Int) ≤ (↑l.length : Int)))) ∧ ((∃ (x5 : Nat), ((l = l) ∧ ((x = x) ∧ ((joinS l = joinS l) ∧ ((cornS l = cornS l) ∧ ((List.drop (1 : Nat) l = List.drop (1 : Nat) l) ∧ (((↑(List.drop (1 : Nat) l).length : Int) = (↑(List.drop (1 : Nat) l).length : Int)) ∧ (((0 : Int) = (↑x5 : Int)) ∧ ((x5 + (1 : Nat) ≤ l.length) ∧ ((True) ∧ (True))))))))))) ∧ (∀ (x6 : Nat), ((x6 + (1 : Nat) ≤ l.length) → (((decide ((↑x6 : Int) < (↑(List.drop (1 : Nat) l).length : Int)) = true) → (Ob ((((0 : Int) ≤ (↑x6 : Int)) ∧ ((↑x6 : Int) < (↑(List.drop (1 : Nat) l).length : Int)))) ∧ ((((!decide ((↑(cornS l).length : Int) = IntKind.i64.wrap ((↑l.length : Int) - (1 : Int)))) = true) → ((true = false) ∧ (True))) ∧ (((!decide ((↑(cornS l).length : Int) = IntKind.i64.wrap ((↑l.length : Int) - (1 : Int)))) = false) → (Ob ((((0 : Int) ≤ (↑x6 : Int)) ∧ ((↑x6 : Int) < (↑(cornS l).length : Int)))) ∧ ((((!decide ((elCell (cornS l) x6 (0 : Nat)).toInt = (elCell (List.drop (1 : Nat) l) x6 (0 : Nat)).toInt)) = true) → ((true = false) ∧ (True))) ∧ (((!decide ((elCell (cornS l) x6 (0 : Nat)).toInt = (elCell (List.drop (1 : Nat) l) x6 (0 : Nat)).toInt)) = false) → (∃ (x7 : Nat), ((l = l) ∧ ((x = x) ∧ ((joinS l = joinS l) ∧ ((cornS l = cornS l) ∧ ((List.drop (1 : Nat) l = List.drop (1 : Nat) l) ∧ (((↑(List.drop (1 : Nat) l).length : Int) = (↑(List.drop (1 : Nat) l).length : Int)) ∧ ((IntKind.i64.wrap ((↑x6 : Int) + (1 : Int)) = (↑x7 : Int)) ∧ ((x7 + (1 : Nat) ≤ l.length) ∧ ((l.length - x7 < l.length - x6) ∧ (True)))))))))))))))))) ∧ ((decide ((↑x6 : Int) < (↑(List.drop (1 : Nat) l).length : Int)) = false) → (Ob (((checkS (joinS l) = (0 : Int)) ∧ (rightB x = true))) ∧ (Ob (((checkS l = (0 : Int)) ∧ (rightB x = true))) ∧ (((decide (rSum (1 : Nat) x (joinS l) (joinS l).length = rSum (1 : Nat) x l l.length) = true) → (Ob (((checkS (joinS l) = (0 : Int)) ∧ (rightB x = true))) ∧ (Ob (((checkS l = (0 : Int)) ∧ (rightB x = true))) ∧ ((decide (rSum (2 : Nat) x (joinS l) (joinS l).length = rSum (2 : Nat) x l l.length) = true) ∧ (True))))) ∧ ((decide (rSum (1 : Nat) x (joinS l) (joinS l).length = rSum (1 : Nat) x l l.length) = false) → ((true = false) ∧ (True))))))))))))))))))))))))))))))))))))))) := by kernel_rfl
theorem bd_app {o p : List SV} {q k : Nat} (h : q < o.length) : bd (o ++ p) q k = bd o q k := by
  have e : (o ++ p).getD q SV.any = o.getD q SV.any := by rw [List.getD_eq_getElem?_getD, List.getD_eq_getElem?_getD, List.getElem?_append_left h]
  unfold bd elCell
  rw [e]
theorem bd_end {o : List SV} {f r e : Int} : bd (o ++ [bOfS f r e]) o.length 0 = f ∧ bd (o ++ [bOfS f r e]) o.length 1 = r ∧ bd (o ++ [bOfS f r e]) o.length 2 = e := by
  unfold bd elCell
  simp only [List.getD_eq_getElem?_getD, List.getElem?_append_right (Nat.le_refl _), Nat.sub_self]
  exact ⟨rfl, rfl, rfl⟩
def goodB (o : List SV) : Prop := ∀ i, i < o.length → bErr o i = 0
theorem goodB_app {o : List SV} {f r e : Int} (h : goodB o) (h1 : 0 ≤ f ∧ f ≤ 100000000000) (h2 : o.length = 0 → f = 0) (h3 : 0 < o.length → bd o (o.length - 1) 0 < f) (h4 : 0 ≤ r ∧ r ≤ 10000) (h5 : 0 ≤ e ∧ e ≤ 10000) : goodB (o ++ [bOfS f r e]) := by
  intro i hi
  rw [List.length_append] at hi
  simp only [List.length_cons, List.length_nil] at hi
  by_cases hl : i < o.length
  · have := h i hl
    unfold bErr at this ⊢
    rw [bd_app hl, bd_app hl, bd_app hl]
    by_cases h0 : 0 < i
    · rw [bd_app (show i - 1 < o.length by omega)]; exact this
    · rw [if_neg (c := 0 < i ∧ _) (fun hc => h0 hc.1)] at this ⊢
      exact this
  · have : i = o.length := by omega
    subst this
    obtain ⟨e1, e2, e3⟩ := bd_end (o := o) (f := f) (r := r) (e := e)
    unfold bErr
    rw [e1, e2, e3, if_neg (by omega), if_neg, if_pos ⟨rateB_iff.2 h4, rateB_iff.2 h5⟩]
    rintro ⟨g1, g2⟩
    rw [bd_app (by omega)] at g2
    have := h3 g1
    omega
theorem check_of {o : List SV} (h1 : 1 ≤ o.length) (h2 : o.length ≤ 8) (h : goodB o) : checkS o = 0 := by
  unfold checkS
  rw [if_neg (by omega)]
  have : ∀ i, i ≤ o.length → bErrs o i = 0 := fun i => by
    induction i with
    | zero => intro _; rfl
    | succ i ih =>
      intro hi
      simp only [bErrs]
      rw [if_pos (ih (by omega))]
      exact h i (by omega)
  exact this _ (Nat.le_refl _)
theorem partS_in {x n d : Int} (h : scaleOk n d = true) (hx : 0 ≤ x) : 0 ≤ partS x n d ∧ partS x n d ≤ x := by
  simp only [scaleOk, Bool.and_eq_true, decide_eq_true_eq] at h
  have m1 := Int.mul_nonneg hx (show 0 ≤ n by omega)
  have m2 : x * n ≤ x * d := Int.mul_le_mul_of_nonneg_left (by omega) hx
  refine ⟨Int.ediv_nonneg m1 (by omega), ?_⟩
  unfold partS
  rw [Int.ediv_le_iff_le_mul (by omega)]
  have := Int.le_trans m2 (Int.le_add_of_nonneg_right (a := x * d) (b := d - 1) (by omega))
  omega
theorem partS_mono {x y n d : Int} (h : scaleOk n d = true) (hx : x ≤ y) : partS x n d ≤ partS y n d := by
  simp only [scaleOk, Bool.and_eq_true, decide_eq_true_eq] at h
  exact Int.ediv_le_ediv (by omega) (Int.mul_le_mul_of_nonneg_right hx (by omega))
theorem keep_no {n d : Int} {l : List SV} {i : Nat} : keepB n d l i = false ↔ i + 1 < l.length ∧ partS (bd l (i + 1) 0) n d = partS (bd l i 0) n d := by
  simp [keepB]
theorem kN_inv {n d : Int} {l : List SV} (h : checkS l = 0) (hs : scaleOk n d = true) : ∀ i, i ≤ l.length → (kN n d l i).length ≤ i ∧ goodB (kN n d l i) ∧ (i < l.length → ((kN n d l i).length = 0 → partS (bd l i 0) n d = 0) ∧ (0 < (kN n d l i).length → bd (kN n d l i) ((kN n d l i).length - 1) 0 < partS (bd l i 0) n d))
  | 0, _ => by
    refine ⟨by simp [kN], fun i hi => by simp [kN] at hi, fun hl => ⟨fun _ => ?_, fun h => by simp [kN] at h⟩⟩
    have := (bErr_zero ((check_zero h).2.2 0 hl)).2.2.1 rfl
    rw [this]
    simp [partS]
  | i + 1, hi => by
    obtain ⟨q1, q2, q3⟩ := kN_inv h hs i (by omega)
    obtain ⟨q4, q5⟩ := q3 (by omega)
    obtain ⟨z1, z2, _, _, z5, z6⟩ := bErr_zero ((check_zero h).2.2 i (by omega))
    have hp := partS_in hs z1
    cases hk : keepB n d l i with
    | false =>
      have e : kN n d l (i + 1) = kN n d l i := by simp [kN, hk]
      obtain ⟨k1, k2⟩ := keep_no.1 hk
      rw [e, k2]
      exact ⟨by omega, q2, fun _ => ⟨q4, q5⟩⟩
    | true =>
      have e : kN n d l (i + 1) = kN n d l i ++ [scB n d l i] := by simp [kN, hk]
      rw [e]
      refine ⟨by simp; omega, goodB_app q2 (by omega) q4 q5 z5 z6, fun hl => ⟨fun hc => by simp at hc, fun _ => ?_⟩⟩
      rw [List.length_append]
      simp only [List.length_cons, List.length_nil, Nat.add_sub_cancel]
      rw [show scB n d l i = bOfS (partS (bd l i 0) n d) (bd l i 1) (bd l i 2) from rfl, bd_end.1]
      have hlt : bd l (i + 1 - 1) 0 < bd l (i + 1) 0 := (bErr_zero ((check_zero h).2.2 (i + 1) hl)).2.2.2.1 (by omega)
      have m := partS_mono hs (x := bd l i 0) (y := bd l (i + 1) 0) (by rw [Nat.add_sub_cancel] at hlt; omega)
      have hne : ¬ partS (bd l (i + 1) 0) n d = partS (bd l i 0) n d := fun hc => by
        rw [keep_no.2 ⟨hl, hc⟩] at hk; cases hk
      omega
theorem scN_kN {n d : Int} {l : List SV} : ∀ i, i < l.length → scN n d l (i + 1) = kN n d l i ++ [scB n d l i]
  | 0, _ => by simp [scN, kN, scB]
  | i + 1, hi => by
    have ih := scN_kN (n := n) (d := d) (l := l) i (by omega)
    rw [scN, ih]
    have el : bd (kN n d l i ++ [scB n d l i]) (kN n d l i).length 0 = partS (bd l i 0) n d := bd_end.1
    simp only [List.length_append, List.length_cons, List.length_nil, Nat.add_sub_cancel]
    rw [el]
    by_cases hp : partS (bd l i 0) n d = partS (bd l (i + 1) 0) n d
    · rw [if_pos ⟨by omega, hp⟩, List.take_left']
      · have : keepB n d l i = false := keep_no.2 ⟨hi, hp.symm⟩
        simp [kN, this, scB]
      · rfl
    · rw [if_neg (fun hc => hp hc.2)]
      have : keepB n d l i = true := by
        cases hk : keepB n d l i with
        | true => rfl
        | false => exact absurd (keep_no.1 hk).2.symm hp
      simp [kN, this, scB]
theorem scN_end {n d : Int} {l : List SV} (h : 1 ≤ l.length) : scN n d l l.length = kN n d l l.length := by
  obtain ⟨k, hk⟩ : ∃ k, l.length = k + 1 := ⟨l.length - 1, by omega⟩
  rw [hk, scN_kN k (by omega)]
  have : keepB n d l k = true := by
    cases hq : keepB n d l k with
    | true => rfl
    | false => have := (keep_no.1 hq).1; omega
  simp [kN, this]
theorem kN_pre {n d : Int} {l : List SV} {i : Nat} : ∀ j, i ≤ j → ∃ t, kN n d l j = kN n d l i ++ t
  | 0, hj => by rw [Nat.le_zero.1 hj]; exact ⟨[], by simp⟩
  | j + 1, hj => by
    rcases Nat.lt_or_ge i (j + 1) with h1 | h1
    · obtain ⟨t, ht⟩ := kN_pre (n := n) (d := d) (l := l) j (show i ≤ j by omega)
      simp only [kN]
      split
      · exact ⟨t ++ [scB n d l j], by rw [ht, List.append_assoc]⟩
      · exact ⟨t, ht⟩
    · rw [show i = j + 1 by omega]; exact ⟨[], by simp⟩

theorem bscales_known : Known Try.prog 6 bscalesC := by
  refine known1 (nt := 115) (An := fun (l, n, d) => (bscales_an n d l)) (labs := []) (lit := false) (em := em_bscales) sh_bscales_le (by kernel_rfl) mixedT tyT_ok (.cons sums_known (.cons rbcheck_known (.cons bscale_known (.cons bcheck_known (.cons rbpart_known .nil))))) Try.func6 (by kernel_rfl) (fun a => by obtain ⟨l, n, d⟩ := a; kernel_rfl) (fun a => by obtain ⟨l, n, d⟩ := a; rfl) (fun a ha => ?_)
  obtain ⟨l, n, d⟩ := a
  replace ha : wfL [.int .i64, .int .i64, .int .i64] l ∧ in64 n ∧ in64 d := ha.out
  refine ⟨_, vc_bscales l n d, ?_⟩
  obtain ⟨_, hn, hd⟩ := ha
  simp only [Int.reduceLE, Int.reduceLT, Int.reduceEq, Int.reduceNe, Nat.reduceLeDiff, Nat.reduceEqDiff, beq_eq_false_iff_ne, beq_iff_eq, decide_eq_decide, ne_eq, eq_self, true_and, and_true, and_self, and_false, false_and, Bool.not_true, Bool.not_false, Bool.false_eq_true, Bool.true_eq_false, false_implies, true_implies, implies_true, imp_false, not_true, not_false_eq_true, decide_eq_true_eq, decide_eq_false_iff_not, Bool.not_eq_true', Bool.not_eq_false', Bool.and_eq_true, Classical.not_not, decide_true, decide_false, Bool.and_true, Bool.true_and, if_true, if_false, Ob_iff]
  simp only [bd_eq]
  intro h
  obtain ⟨n1, n2, n3⟩ := check_zero h
  have bad : scaleOk n d = false → scE n d l = 1 ∧ scS n d l = [] := fun h2 => by
    have : scE n d l = 1 := by unfold scE; rw [if_pos h, h2]; rfl
    exact ⟨this, by unfold scS; rw [if_neg (by omega)]⟩
  refine ⟨⟨hn, hd⟩, fun c1 => ?_, fun c1 => ⟨fun c2 => ?_, fun c2 => ⟨fun c3 => ?_, fun c3 => ⟨fun c4 => ?_, fun c4 => ?_⟩⟩⟩⟩
  · obtain ⟨b1, b2⟩ := bad (by simp [scaleOk]; omega)
    simp [b1, b2]
  · obtain ⟨b1, b2⟩ := bad (by simp [scaleOk]; omega)
    simp [b1, b2]
  · obtain ⟨b1, b2⟩ := bad (by simp [scaleOk]; omega)
    simp [b1, b2]
  · obtain ⟨b1, b2⟩ := bad (by simp [scaleOk]; omega)
    simp [b1, b2]
  · have hs : scaleOk n d = true := by simp [scaleOk]; omega
    have hE : scE n d l = 0 := by unfold scE; rw [if_pos h, hs]; rfl
    have hS : scS n d l = kN n d l l.length := by unfold scS; rw [if_pos hE, scN_end n1]
    obtain ⟨v1, v2, _⟩ := kN_inv h hs l.length (by omega)
    have v0 := scN_len n d l l.length
    rw [scN_end n1] at v0
    have v3 := check_of (v0.2 (by omega)) (by omega) v2
    simp only [hE, hS]
    simp only [Int.reduceLE, Int.reduceLT, Int.reduceEq, Int.reduceNe, Nat.reduceLeDiff, Nat.reduceEqDiff, beq_eq_false_iff_ne, beq_iff_eq, decide_eq_decide, ne_eq, eq_self, true_and, and_true, and_self, and_false, false_and, Bool.not_true, Bool.not_false, Bool.false_eq_true, Bool.true_eq_false, false_implies, true_implies, implies_true, imp_false, not_true, not_false_eq_true, decide_eq_true_eq, decide_eq_false_iff_not, Bool.not_eq_true', Bool.not_eq_false', Bool.and_eq_true, Classical.not_not, decide_true, decide_false, Bool.and_true, Bool.true_and, if_true, if_false, Ob_iff]
    refine ⟨v3, fun _ => ⟨by omega, fun _ => ⟨⟨0, rfl, rfl, by omega, h, hs, hn, hd⟩, fun i ⟨i1, _⟩ => ⟨fun c => ?_, fun c => ?_⟩⟩⟩⟩
    · have hi : i < l.length := by omega
      obtain ⟨z1, z2, _⟩ := bErr_zero (n3 i hi)
      obtain ⟨u1, u2, _⟩ := kN_inv h hs i (by omega)
      simp only [wrapI (n := (i : Int) + 1) (by omega), show ((i : Int) + 1).toNat = i + 1 by omega, wrapI (n := ((kN n d l i).length : Int) + 1) (by omega)]
      have nx : keepB n d l i = true → ¬ ((kN n d l l.length).length : Int) ≤ ((kN n d l i).length : Int) ∧ (¬ ((kN n d l l.length).length : Int) ≤ ((kN n d l i).length : Int) → (0 ≤ ((kN n d l i).length : Int) ∧ ((kN n d l i).length : Int) < ((kN n d l l.length).length : Int)) ∧
          ¬ (decide (bd (kN n d l l.length) (kN n d l i).length 0 = partS (bd l i 0) n d) && (decide (bd (kN n d l l.length) (kN n d l i).length 1 = bd l i 1) && decide (bd (kN n d l l.length) (kN n d l i).length 2 = bd l i 2))) = false ∧
          (bd (kN n d l l.length) (kN n d l i).length 0 = partS (bd l i 0) n d ∧ bd (kN n d l l.length) (kN n d l i).length 1 = bd l i 1 ∧ bd (kN n d l l.length) (kN n d l i).length 2 = bd l i 2 →
            ∃ x4 : Nat, ((kN n d l i).length : Int) + 1 = ((kN n d l x4).length : Int) ∧ (i : Int) + 1 = (x4 : Int) ∧ (x4 ≤ l.length ∧ checkS l = 0 ∧ scaleOk n d = true ∧ in64 n ∧ in64 d) ∧ l.length - x4 < l.length - i)) := fun hk => by
        have e : kN n d l (i + 1) = kN n d l i ++ [scB n d l i] := by simp [kN, hk]
        obtain ⟨t, ht⟩ := kN_pre (n := n) (d := d) (l := l) l.length (show i + 1 ≤ l.length by omega)
        have hlen : (kN n d l l.length).length = (kN n d l i).length + 1 + t.length := by rw [ht, e]; simp; omega
        have hb : ∀ k, bd (kN n d l l.length) (kN n d l i).length k = bd (kN n d l i ++ [scB n d l i]) (kN n d l i).length k := fun k => by rw [ht, e, bd_app (by simp)]
        obtain ⟨e1, e2, e3⟩ := bd_end (o := kN n d l i) (f := partS (bd l i 0) n d) (r := bd l i 1) (e := bd l i 2)
        have e1 : bd (kN n d l l.length) (kN n d l i).length 0 = partS (bd l i 0) n d := by rw [hb]; exact e1
        have e2 : bd (kN n d l l.length) (kN n d l i).length 1 = bd l i 1 := by rw [hb]; exact e2
        have e3 : bd (kN n d l l.length) (kN n d l i).length 2 = bd l i 2 := by rw [hb]; exact e3
        refine ⟨by omega, fun _ => ⟨by omega, by simp [e1, e2, e3], fun _ => ⟨i + 1, by rw [e]; simp, rfl, ⟨by omega, h, hs, hn, hd⟩, by omega⟩⟩⟩
      refine ⟨by omega, by omega, fun c5 => ⟨by omega, ?_, fun c6 => ?_, fun c6 => ?_⟩, fun c5 => ?_⟩
      · obtain ⟨y1, y2, _⟩ := bErr_zero (n3 (i + 1) (by omega))
        omega
      · have hk : keepB n d l i = false := keep_no.2 ⟨by omega, c6⟩
        exact ⟨i + 1, by simp [kN, hk], rfl, ⟨by omega, h, hs, hn, hd⟩, by omega⟩
      · refine nx ?_
        cases hk : keepB n d l i with
        | true => rfl
        | false => exact absurd (keep_no.1 hk).2 c6
      · refine nx ?_
        cases hk : keepB n d l i with
        | true => rfl
        | false => have := (keep_no.1 hk).1; omega
    · rw [show i = l.length by omega]

theorem prevR_app {k : Nat} {o p : List SV} : ∀ {q : Nat}, q ≤ o.length → prevR k (o ++ p) q = prevR k o q
  | 0, _ => rfl
  | q + 1, h => bd_app (by omega)
theorem abvB_app {x : Int} {o p : List SV} {q : Nat} (h : q < o.length) : abvB x (o ++ p) q = abvB x o q := by
  unfold abvB
  rw [if_pos h, if_pos (by rw [List.length_append]; omega), bd_app h]
theorem rSum_app {k : Nat} {x : Int} {o p : List SV} : ∀ n, n ≤ o.length → rSum k x (o ++ p) n = rSum k x o n
  | 0, _ => rfl
  | n + 1, h => by
    simp only [rSum]
    rw [rSum_app n (by omega), abvB_app (by omega), bd_app (by omega), prevR_app (by omega)]
theorem topN_app {o p : List SV} : ∀ n, n ≤ o.length → topN (o ++ p) n = topN o n
  | 0, _ => rfl
  | n + 1, h => by
    simp only [topN]
    rw [topN_app n (by omega), bd_app (by omega)]
theorem topN_ge {o : List SV} : ∀ {n q : Nat}, q < n → bd o q 1 ≤ topN o n
  | 0, q, h => by omega
  | n + 1, q, h => by
    have e : topN o (n + 1) = maxV (topN o n) (bd o n 1) := rfl
    unfold maxV at e
    by_cases hq : q = n
    · subst hq; split at e <;> omega
    · have := topN_ge (o := o) (show q < n by omega)
      split at e <;> omega
def diffB (o : List SV) (q : Nat) : Prop := ¬ (bd o q 1 = bd o (q - 1) 1 ∧ bd o q 2 = bd o (q - 1) 2)
structure JI (x : Int) (l : List SV) (i : Nat) (o : List SV) : Prop where
  len : o.length ≤ i ∧ (0 < i → 0 < o.length)
  good : goodB o
  last : 0 < i → bd o (o.length - 1) 0 ≤ bd l (i - 1) 0 ∧ bd o (o.length - 1) 1 = bd l (i - 1) 1 ∧ bd o (o.length - 1) 2 = bd l (i - 1) 2
  s1 : rSum 1 x o o.length = rSum 1 x l i
  s2 : rSum 2 x o o.length = rSum 2 x l i
  top : topN o o.length = topN l i
  diff : ∀ q, 1 ≤ q → q < o.length → diffB o q
theorem JI.prev {x : Int} {l : List SV} {i : Nat} {o : List SV} (h : JI x l i o) : prevR 1 o o.length = prevR 1 l i ∧ prevR 2 o o.length = prevR 2 l i := by
  cases i with
  | zero => rw [show o.length = 0 by have := h.len.1; omega]; exact ⟨rfl, rfl⟩
  | succ i =>
    obtain ⟨_, l2, l3⟩ := h.last (by omega)
    have := h.len.2 (by omega)
    obtain ⟨k, hk⟩ : ∃ k, o.length = k + 1 := ⟨o.length - 1, by omega⟩
    rw [hk] at l2 l3 ⊢
    exact ⟨l2, l3⟩
theorem join_inv {x : Int} {l : List SV} (h : checkS l = 0) : ∀ i, i ≤ l.length → JI x l i (joinN l i)
  | 0, _ => ⟨⟨by simp [joinN], fun h => by omega⟩, fun i hi => by simp [joinN] at hi, fun h => by omega, rfl, rfl, rfl, fun q h1 h2 => by simp [joinN] at h2⟩
  | i + 1, hi => by
    have ih := join_inv (x := x) h i (by omega)
    obtain ⟨z1, z2, z3, z4, z5, z6⟩ := bErr_zero ((check_zero h).2.2 i (by omega))
    obtain ⟨p1, p2⟩ := ih.prev
    have ab : abvB x l i = maxV 0 (x - bd l i 0) := by unfold abvB; rw [if_pos (by omega)]
    cases hs : sameR (joinN l i) l i with
    | true =>
      have e : joinN l (i + 1) = joinN l i := by simp only [joinN, hs, if_true]
      rw [e]
      simp only [sameR, Bool.and_eq_true, decide_eq_true_eq] at hs
      obtain ⟨⟨q1, q2⟩, q3⟩ := hs
      have h0 : 0 < i := by have := ih.len.1; omega
      obtain ⟨l1, l2, l3⟩ := ih.last h0
      have z4 := z4 h0
      have e1 : prevR 1 l i = bd l i 1 := by
        obtain ⟨k, rfl⟩ : ∃ k, i = k + 1 := ⟨i - 1, by omega⟩
        rw [← q2, l2]; rfl
      have e2 : prevR 2 l i = bd l i 2 := by
        obtain ⟨k, rfl⟩ : ∃ k, i = k + 1 := ⟨i - 1, by omega⟩
        rw [← q3, l3]; rfl
      refine ⟨⟨by have := ih.len.1; omega, fun _ => q1⟩, ih.good, fun _ => ⟨by rw [Nat.add_sub_cancel]; omega, q2, q3⟩, ?_, ?_, ?_, ih.diff⟩
      · rw [ih.s1]; simp only [rSum]; rw [e1, Int.sub_self, Int.mul_zero, Int.add_zero]
      · rw [ih.s2]; simp only [rSum]; rw [e2, Int.sub_self, Int.mul_zero, Int.add_zero]
      · have hg := topN_ge (o := joinN l i) (n := (joinN l i).length) (q := (joinN l i).length - 1) (by omega)
        rw [ih.top] at hg ⊢
        show topN l i = maxV (topN l i) (bd l i 1)
        unfold maxV
        split <;> omega
    | false =>
      have e : joinN l (i + 1) = joinN l i ++ [bOfS (bd l i 0) (bd l i 1) (bd l i 2)] := by simp [joinN, hs, cpy]
      rw [e]
      generalize hO : joinN l i = o at *
      obtain ⟨b0, b1, b2⟩ := bd_end (o := o) (f := bd l i 0) (r := bd l i 1) (e := bd l i 2)
      generalize hV : bOfS (bd l i 0) (bd l i 1) (bd l i 2) = v at *
      have hlen : (o ++ [v]).length = o.length + 1 := by simp
      have ab2 : abvB x (o ++ [v]) o.length = maxV 0 (x - bd l i 0) := by unfold abvB; rw [if_pos (by omega), b0]
      refine ⟨⟨by have := ih.len.1; omega, fun _ => by omega⟩, ?_, fun _ => ?_, ?_, ?_, ?_, fun q h1 h2 => ?_⟩
      · rw [← hV]
        refine goodB_app ih.good ⟨z1, z2⟩ (fun h0 => z3 (by have := ih.len.2; omega)) (fun h0 => ?_) z5 z6
        have h0 : 0 < i := by have := ih.len.1; omega
        have := (ih.last h0).1
        have := z4 h0
        omega
      · rw [hlen, Nat.add_sub_cancel, Nat.add_sub_cancel, b0, b1, b2]
        exact ⟨Int.le_refl _, rfl, rfl⟩
      · rw [hlen]
        simp only [rSum]
        rw [rSum_app o.length (Nat.le_refl _), ab2, b1, prevR_app (Nat.le_refl _), ih.s1, ab, p1]
      · rw [hlen]
        simp only [rSum]
        rw [rSum_app o.length (Nat.le_refl _), ab2, b2, prevR_app (Nat.le_refl _), ih.s2, ab, p2]
      · rw [hlen]
        simp only [topN]
        rw [topN_app o.length (Nat.le_refl _), ih.top, b1]
      · rw [hlen] at h2
        by_cases hq : q < o.length
        · have := ih.diff q h1 hq
          unfold diffB at this ⊢
          rw [bd_app hq, bd_app (show q - 1 < o.length by omega), bd_app hq, bd_app (show q - 1 < o.length by omega)]
          exact this
        · have : q = o.length := by omega
          subst this
          unfold diffB
          rw [b1, b2, bd_app (show o.length - 1 < o.length by omega), bd_app (show o.length - 1 < o.length by omega)]
          rintro ⟨g1, g2⟩
          simp only [sameR, Bool.and_eq_false_iff, decide_eq_false_iff_not] at hs
          rcases hs with (h | h) | h
          · omega
          · exact h g1.symm
          · exact h g2.symm
theorem join_diff {o : List SV} (h : ∀ q, 1 ≤ q → q < o.length → diffB o q) : ∀ n, n ≤ o.length → joinN o n = (List.range n).map (cpy o)
  | 0, _ => rfl
  | n + 1, hn => by
    have ih := join_diff h n (by omega)
    have hs : sameR (joinN o n) o n = false := by
      rw [ih]
      rcases Nat.eq_zero_or_pos n with h0 | h0
      · subst h0; simp [sameR]
      · have hd := h n h0 (by omega)
        have e : ∀ k, k = 1 ∨ k = 2 → bd ((List.range n).map (cpy o)) (n - 1) k = bd o (n - 1) k := fun k hk => by
          unfold bd elCell
          rw [getD_map (cpy o) (List.range n) (n - 1) 0 .any (by simp; omega)]
          simp only [List.getD_eq_getElem?_getD, List.getElem?_range (show n - 1 < n by omega), Option.getD_some]
          rcases hk with rfl | rfl <;> rfl
        simp only [sameR, List.length_map, List.length_range]
        rw [e 1 (.inl rfl), e 2 (.inr rfl)]
        simp only [Bool.and_eq_false_iff, decide_eq_false_iff_not]
        unfold diffB at hd
        by_cases g1 : bd o (n - 1) 1 = bd o n 1
        · exact .inr (fun g2 => hd ⟨g1.symm, g2.symm⟩)
        · exact .inl (.inr g1)
    rw [List.range_succ, List.map_append, ← ih]
    simp [joinN, hs]
theorem rows_cpy (o : List SV) : rowsEq o ((List.range o.length).map (cpy o)) = true := by
  unfold rowsEq
  simp only [List.length_map, List.length_range, decide_true, Bool.true_and, List.all_eq_true, List.mem_range]
  intro i hi
  have e : ∀ k, k = 0 ∨ k = 1 ∨ k = 2 → bd ((List.range o.length).map (cpy o)) i k = bd o i k := fun k hk => by
    unfold bd elCell
    rw [getD_map (cpy o) (List.range o.length) i 0 .any (by simpa using hi)]
    simp only [List.getD_eq_getElem?_getD, List.getElem?_range hi, Option.getD_some]
    rcases hk with rfl | rfl | rfl <;> rfl
  rw [rowEq_iff]
  exact ⟨(e 0 (by simp)).symm, (e 1 (by simp)).symm, (e 2 (by simp)).symm⟩
theorem cornN_eq (l : List SV) : ∀ n, cornN l (n + 1) = (List.range n).map fun j => .int .i64 (bd l (j + 1) 0)
  | 0 => by simp [cornN]
  | n + 1 => by
    rw [cornN, if_neg (by omega), cornN_eq l n, List.range_succ, List.map_append]
    rfl

theorem bjoins_known : Known Try.prog 7 bjoinsC := by
  refine known1 (nt := 122) (An := fun (l, x) => (bjoins_an l x)) (labs := []) (lit := false) (em := em_bjoins) sh_bjoins_le (by kernel_rfl) mixedT tyT_ok (.cons sums_known (.cons rbcheck_known (.cons bjoin_known (.cons bsame_known (.cons btop_known (.cons bcorn_known (.cons rbexact_known .nil))))))) Try.func7 (by kernel_rfl) (fun a => by obtain ⟨l, x⟩ := a; kernel_rfl) (fun a => by obtain ⟨l, x⟩ := a; rfl) (fun a ha => ?_)
  obtain ⟨l, x⟩ := a
  replace ha : wfL [.int .i64, .int .i64, .int .i64] l ∧ in64 x := ha.out
  refine ⟨_, vc_bjoins l x, ?_⟩
  obtain ⟨_, hx⟩ := ha
  simp only [Int.reduceLE, Int.reduceLT, Int.reduceEq, Int.reduceNe, Nat.reduceLeDiff, Nat.reduceEqDiff, beq_eq_false_iff_ne, beq_iff_eq, decide_eq_decide, ne_eq, eq_self, true_and, and_true, and_self, and_false, false_and, Bool.not_true, Bool.not_false, Bool.false_eq_true, Bool.true_eq_false, false_implies, true_implies, implies_true, imp_false, not_true, not_false_eq_true, decide_eq_true_eq, decide_eq_false_iff_not, Bool.not_eq_true', Bool.not_eq_false', Bool.and_eq_true, Classical.not_not, decide_true, decide_false, Bool.and_true, Bool.true_and, if_true, if_false, Ob_iff]
  intro h c1 c2
  obtain ⟨n1, n2, n3⟩ := check_zero h
  have inv := join_inv (x := x) h l.length (Nat.le_refl _)
  have hj : joinN l l.length = joinS l := rfl
  rw [hj] at inv
  have hcj := check_of (inv.len.2 (by omega)) (by have := inv.len.1; omega) inv.good
  have hr : rightB x = true := rightB_iff.2 (by omega)
  have hjj : joinS (joinS l) = (List.range (joinS l).length).map (cpy (joinS l)) := join_diff inv.diff _ (Nat.le_refl _)
  have hsame : rowsEq (joinS l) (joinS (joinS l)) = true := by rw [hjj]; exact rows_cpy _
  have htop : topS (joinS l) = topS l := inv.top
  have i1 := inv.len.1
  have i2 := inv.len.2 (by omega)
  obtain ⟨m, hm⟩ : ∃ m, l.length = m + 1 := ⟨l.length - 1, by omega⟩
  have hcl : (cornS l).length = l.length - 1 := by
    unfold cornS
    rw [hm, cornN_eq]; simp
  have hcg : ∀ q, q + 1 < l.length → (elCell (cornS l) q 0).toInt = (elCell (List.drop 1 l) q 0).toInt := fun q hq => by
    have e1 : elCell (List.drop 1 l) q 0 = elCell l (q + 1) 0 := by
      have e : (List.drop 1 l).getD q SV.any = l.getD (q + 1) SV.any := by rw [List.getD_eq_getElem?_getD, List.getD_eq_getElem?_getD, List.getElem?_drop, Nat.add_comm]
      unfold elCell
      rw [e]
    rw [e1]
    unfold cornS
    rw [hm, cornN_eq]
    have e2 : ((List.range m).map fun j => SV.int .i64 (bd l (j + 1) 0)).getD q .any = SV.int .i64 (bd l (q + 1) 0) := by
      rw [getD_map (fun j => SV.int .i64 (bd l (j + 1) 0)) (List.range m) q 0 .any (by simp; omega)]
      simp [List.getD_eq_getElem?_getD, show q < m by omega]
    conv => lhs; unfold elCell
    rw [e2]
    rfl
  rw [hsame, htop]
  have hdl : (List.drop 1 l).length = l.length - 1 := by simp
  simp only [hdl, hcl]
  simp only [Int.reduceLE, Int.reduceLT, Int.reduceEq, Int.reduceNe, Nat.reduceLeDiff, Nat.reduceEqDiff, beq_eq_false_iff_ne, beq_iff_eq, decide_eq_decide, ne_eq, eq_self, true_and, and_true, and_self, and_false, false_and, Bool.not_true, Bool.not_false, Bool.false_eq_true, Bool.true_eq_false, false_implies, true_implies, implies_true, imp_false, not_true, not_false_eq_true, decide_eq_true_eq, decide_eq_false_iff_not, Bool.not_eq_true', Bool.not_eq_false', Bool.and_eq_true, Classical.not_not, decide_true, decide_false, Bool.and_true, Bool.true_and, if_true, if_false, Ob_iff]
  refine ⟨by omega, ⟨by omega, by omega⟩, by omega, fun _ => ⟨by omega, fun _ => ⟨by omega, by omega, ⟨1, rfl, by omega, by omega⟩, fun i ⟨j1, j2⟩ => ⟨fun c => ?_, fun c => ⟨by omega, by omega, ⟨0, rfl, by omega⟩, fun q hq => ⟨fun c3 => ?_, fun c3 => ?_⟩⟩⟩⟩⟩⟩
  · have hd := inv.diff i j1 (by omega)
    simp only [wrapI (n := (i : Int) - 1) (by omega), wrapI (n := (i : Int) + 1) (by omega), show ((i : Int) - 1).toNat = i - 1 by omega]
    have nx : ∃ x3 : Nat, (i : Int) + 1 = (x3 : Int) ∧ (1 ≤ x3 ∧ x3 ≤ (joinS l).length) ∧ (joinS l).length - x3 < (joinS l).length - i := ⟨i + 1, rfl, ⟨by omega, by omega⟩, by omega⟩
    exact ⟨by omega, by omega, fun g1 => ⟨by omega, by omega, fun g2 => hd ⟨g1, g2⟩, fun _ => nx⟩, fun _ => nx⟩
  · rw [hcg q (by omega), wrapI (n := (l.length : Int) - 1) (by omega), wrapI (n := (q : Int) + 1) (by omega)]
    exact ⟨by omega, by omega, fun _ => ⟨by omega, rfl, fun _ => ⟨q + 1, rfl, by omega, by omega⟩⟩⟩
  · exact ⟨⟨hcj, hr⟩, ⟨h, hr⟩, fun _ => ⟨⟨hcj, hr⟩, ⟨h, hr⟩, inv.s2⟩, inv.s1⟩

end Go.Rx
