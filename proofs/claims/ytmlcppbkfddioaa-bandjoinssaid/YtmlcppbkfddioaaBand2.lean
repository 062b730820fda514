/- Bands: the document's answer; which band an amount is in; the greatest rate; corners; bands of a part of the year; like bands joined. -/
import Derived.Test.YtmlcppbkfddioaaBand
namespace Go.Rx
open Go.Proofs
set_option linter.unusedSimpArgs false
set_option linter.unusedVariables false

def prevR (k : Nat) (l : List SV) : Nat → Int
  | 0 => 0
  | i + 1 => bd l i k
/-- What an amount comes to, as the document has it: each rate's step of all that is above. -/
def rSum (k : Nat) (x : Int) (l : List SV) : Nat → Int
  | 0 => 0
  | i + 1 => rSum k x l i + abvB x l i * (bd l i k - prevR k l i)
def kOf (b : Bool) : Nat := if b = true then 2 else 1
def rex_an (x : Int) (l : List SV) (b : Bool) : Nat → Option Ann
  | 0 => some ⟨Nat, fun i => ⟨[(0, .int .i64 x), (1, .sl bandK l), (2, .bool b), (7, .int .i64 (rSum (kOf b) x l i)), (8, .int .i64 (prevR (kOf b) l i)), (9, .int .i64 i)], []⟩, fun i => i ≤ l.length ∧ checkS l = 0 ∧ rightB x = true, fun i => l.length - i, [0, 1, 2, 7, 8, 9], [], []⟩
  | _ => none
/-- Is the next band the one, too? -/
def findOk (x : Int) (l : List SV) (i : Nat) : Prop := i < l.length ∧ (∀ j, 0 < j → j ≤ i → bd l j 0 < x) 
def findN (x : Int) (l : List SV) : Nat → Nat → Nat
  | 0, i => i
  | f + 1, i => if i + 1 < l.length ∧ bd l (i + 1) 0 < x then findN x l f (i + 1) else i
def findS (x : Int) (l : List SV) : Nat := findN x l l.length 0
def find_an (x : Int) (l : List SV) : Nat → Option Ann
  | 0 => some ⟨Nat, fun i => ⟨[(0, .int .i64 x), (1, .sl bandK l), (5, .int .i64 i)], []⟩, fun i => i ≤ l.length ∧ l.length ≤ 1000 ∧ findN x l (l.length - i) i = findS x l, fun i => l.length - i, [0, 1, 5], [], []⟩
  | _ => none
def topN (l : List SV) : Nat → Int
  | 0 => 0
  | i + 1 => maxV (topN l i) (bd l i 1)
def topS (l : List SV) : Int := topN l l.length
def top_an (l : List SV) : Nat → Option Ann
  | 0 => some ⟨Nat, fun i => ⟨[(3, .int .i64 (topN l i)), (6, .sl bandK l), (7, .int .i64 l.length), (8, .int .i64 i)], []⟩, fun i => i ≤ l.length ∧ l.length ≤ 1000, fun i => l.length - i, [3, 6, 7, 8], [], []⟩
  | _ => none
def cornN (l : List SV) : Nat → List SV
  | 0 => []
  | i + 1 => if i = 0 then [] else cornN l i ++ [.int .i64 (bd l i 0)]
def cornS (l : List SV) : List SV := cornN l l.length
def corn_an (l : List SV) : Nat → Option Ann
  | 0 => some ⟨Nat, fun i => ⟨[(3, .osl 19 0), (6, .sl bandK l), (7, .int .i64 l.length), (8, .int .i64 i)], [(19, .row 0 2 [.int .i64] (cornN l i))]⟩, fun i => i ≤ l.length ∧ l.length ≤ 1000, fun i => l.length - i, [3, 6, 7, 8], [19], [(3, 19, 2, [.int .i64])]⟩
  | _ => none
/-- A band, of its columns. -/
def bOfS (f r e : Int) : SV := .agg [.int .i64 f, .int .i64 r, .int .i64 e]
def cpy (l : List SV) (i : Nat) : SV := bOfS (bd l i 0) (bd l i 1) (bd l i 2)
def sameR (o : List SV) (l : List SV) (i : Nat) : Bool := decide (0 < o.length) && decide (bd o (o.length - 1) 1 = bd l i 1) && decide (bd o (o.length - 1) 2 = bd l i 2)
def joinN (l : List SV) : Nat → List SV
  | 0 => []
  | i + 1 => if sameR (joinN l i) l i = true then joinN l i else joinN l i ++ [cpy l i]
def joinS (l : List SV) : List SV := joinN l l.length
def join_an (l : List SV) : Nat → Option Ann
  | 0 => some ⟨Nat, fun i => ⟨[(3, .osl 42 0), (7, .sl bandK l), (8, .int .i64 l.length), (9, .int .i64 i)], [(42, .row 0 37 bandK (joinN l i))]⟩, fun i => i ≤ l.length ∧ l.length ≤ 1000, fun i => l.length - i, [3, 7, 8, 9], [42], [(3, 42, 37, bandK)]⟩
  | _ => none
def rowEq (a b : List SV) (i : Nat) : Bool := decide (bd a i 0 = bd b i 0) && decide (bd a i 1 = bd b i 1) && decide (bd a i 2 = bd b i 2)
def rowsEq (a b : List SV) : Bool := decide (a.length = b.length) && (List.range a.length).all (rowEq a b)
def eql_an (a b : List SV) : Nat → Option Ann
  | 0 => some ⟨Nat, fun i => ⟨[(0, .sl bandK a), (1, .sl bandK b), (12, .int .i64 a.length), (13, .int .i64 i)], []⟩, fun i => i ≤ a.length ∧ a.length = b.length ∧ a.length ≤ 1000 ∧ (List.range i).all (rowEq a b) = true, fun i => a.length - i, [0, 1, 12, 13], [], []⟩
  | _ => none
def partS (x n d : Int) : Int := x * n / d
def scaleOk (n d : Int) : Bool := decide (0 ≤ n) && decide (1 ≤ d) && decide (n ≤ d) && decide (d ≤ 1048576)
/-- Bands of a part of the year, so far: one that begins where the next one does is left out. -/
def scN (n d : Int) (l : List SV) : Nat → List SV
  | 0 => []
  | i + 1 => (if 0 < (scN n d l i).length ∧ bd (scN n d l i) ((scN n d l i).length - 1) 0 = partS (bd l i 0) n d then (scN n d l i).take ((scN n d l i).length - 1) else scN n d l i) ++ [bOfS (partS (bd l i 0) n d) (bd l i 1) (bd l i 2)]
def scE (n d : Int) (l : List SV) : Int := if checkS l = 0 then (if scaleOk n d = true then 0 else 1) else checkS l
def scS (n d : Int) (l : List SV) : List SV := if scE n d l = 0 then scN n d l l.length else []
def sc_an (n d : Int) (l : List SV) : Nat → Option Ann
  | 0 => some ⟨Nat, fun i => ⟨[(0, .int .i64 n), (1, .int .i64 d), (9, .osl 75 0), (35, .sl bandK l), (36, .int .i64 l.length), (37, .int .i64 i)], [(75, .row 0 37 bandK (scN n d l i))]⟩, fun i => i ≤ l.length ∧ checkS l = 0 ∧ scaleOk n d = true, fun i => l.length - i, [0, 1, 9, 35, 36, 37], [75], [(9, 75, 37, bandK)]⟩
  | _ => none

def sh_rbcheck : List SV → Option (List SV)
  | [l'] => (match slOf [.int .i64, .int .i64, .int .i64] l' with | some l => some l | none => none)
  | _ => none
def em_rbcheck : List SV → List SV := fun l => [.sl [.int .i64, .int .i64, .int .i64] l]
theorem sh_rbcheck_le : ∀ us a, sh_rbcheck us = some a → leL us (em_rbcheck a) := by
  intro us a h
  unfold sh_rbcheck at h
  split at h
  · split at h
    · cases h; exact (.cons (.sl (by assumption)) .nil)
    · cases h
  · cases h
def rbcheckC : Con := conOf sh_rbcheck (fun _ => none) (fun l => .int .i64 (checkS l))
set_option maxRecDepth 100000 in
theorem vc_rbcheck (l : List SV) : (wpF ⟨90, tyT, [], false⟩ ((rchk_an l)) [] Try.f10 (em_rbcheck l) (.int .i64 (checkS l))) = ((((decide ((↑l.length : Int) < (1 : Int)) = true) → (((2 : Int) = checkS l) ∧ (True))) ∧ ((decide ((↑l.length : Int) < (1 : Int)) = false) → (((decide ((8 : Int) < (↑l.length : Int)) = true) → (((2 : Int) = checkS l) ∧ (True))) ∧ ((decide ((8 : Int) < (↑l.length : Int)) = false) → ((∃ (x1 : Nat), ((l = l) ∧ (((0 : Int) = (↑x1 : Int)) ∧ (((x1 ≤ l.length) ∧ (((1 : Nat) ≤ l.length) ∧ ((l.length ≤ (8 : Nat)) ∧ (bErrs l x1 = (0 : Int))))) ∧ ((True) ∧ (True)))))) ∧ (∀ (x2 : Nat), (((x2 ≤ l.length) ∧ (((1 : Nat) ≤ l.length) ∧ ((l.length ≤ (8 : Nat)) ∧ (bErrs l x2 = (0 : Int))))) → (((decide ((↑x2 : Int) < (↑l.length : Int)) = true) → (Ob ((((0 : Int) ≤ (↑x2 : Int)) ∧ ((↑x2 : Int) < (↑l.length : Int)))) ∧ (((decide ((elCell l x2 (0 : Nat)).toInt < (0 : Int)) = true) → (((1 : Int) = checkS l) ∧ (True))) ∧ ((decide ((elCell l x2 (0 : Nat)).toInt < (0 : Int)) = false) → (Ob ((((0 : Int) ≤ (↑x2 : Int)) ∧ ((↑x2 : Int) < (↑l.length : Int)))) ∧ (((decide ((100000000000 : Int) < (elCell l x2 (0 : Nat)).toInt) = true) → (((1 : Int) = checkS l) ∧ (True))) ∧ ((decide ((100000000000 : Int) < (elCell l x2 (0 : Nat)).toInt) = false) → (((decide ((↑x2 : Int) = (0 : Int)) = true) → (Ob ((((0 : Int) ≤ (↑x2 : Int)) ∧ ((↑x2 : Int) < (↑l.length : Int)))) ∧ (((decide ((0 : Int) < (elCell l x2 (0 : Nat)).toInt) = true) → (((1 : Int) = checkS l) ∧ (True))) ∧ ((decide ((0 : Int) < (elCell l x2 (0 : Nat)).toInt) = false) → (((decide ((0 : Int) < (↑x2 : Int)) = true) → (Ob ((((0 : Int) ≤ (↑x2 : Int)) ∧ ((↑x2 : Int) < (↑l.length : Int)))) ∧ (Ob ((((0 : Int) ≤ IntKind.i64.wrap ((↑x2 : Int) - (1 : Int))) ∧ (IntKind.i64.wrap ((↑x2 : Int) - (1 : Int)) < (↑l.length : Int)))) ∧ (((decide ((elCell l x2 (0 : Nat)).toInt ≤ (elCell l (IntKind.i64.wrap ((↑x2 : Int) - (1 : Int))).toNat (0 : Nat)).toInt) = true) → (((6 : Int) = checkS l) ∧ (True))) ∧ ((decide ((elCell l x2 (0 : Nat)).toInt ≤ (elCell l (IntKind.i64.wrap ((↑x2 : Int) - (1 : Int))).toNat (0 : Nat)).toInt) = false) → (Ob ((((0 : Int) ≤ (↑x2 : Int)) ∧ ((↑x2 : Int) < (↑l.length : Int)))) ∧ (((decide ((elCell l x2 (1 : Nat)).toInt < (0 : Int)) = true) → (((50 : Int) = checkS l) ∧ (True))) ∧ ((decide ((elCell l x2 (1 : Nat)).toInt < (0 : Int)) = false) → (Ob ((((0 : Int) ≤ (↑x2 : Int)) ∧ ((↑x2 : Int) < (↑l.length : Int)))) ∧ (((decide ((10000 : Int) < (elCell l x2 (1 : Nat)).toInt) = true) → (((50 : Int) = checkS l) ∧ (True))) ∧ ((decide ((10000 : Int) < (elCell l x2 (1 : Nat)).toInt) = false) → (Ob ((((0 : Int) ≤ (↑x2 : Int)) ∧ ((↑x2 : Int) < (↑l.length : Int)))) ∧ (((decide ((elCell l x2 (2 : Nat)).toInt < (0 : Int)) = true) → (((50 : Int) = checkS l) ∧ (True))) ∧ ((decide ((elCell l x2 (2 : Nat)).toInt < (0 : Int)) = false) → (Ob ((((0 : Int) ≤ (↑x2 : Int)) ∧ ((↑x2 : Int) < (↑l.length : Int)))) ∧ (((decide ((10000 : Int) < (elCell l x2 (2 : Nat)).toInt) = true) → (((50 : Int) = checkS l) ∧ (True))) ∧ ((decide ((10000 : Int) < (elCell l x2 (2 : Nat)).toInt) = false) → (∃ (x3 : Nat), ((l = l) ∧ ((IntKind.i64.wrap ((↑x2 : Int) + (1 : Int)) = (↑x3 : Int)) ∧ (((x3 ≤ l.length) ∧ (((1 : Nat) ≤ l.length) ∧ ((l.length ≤ (8 : Nat)) ∧ (bErrs l x3 = (0 : Int))))) ∧ ((l.length - x3 < l.length - x2) ∧ (True))))))))))))))))))))))) ∧ ((decide ((0 : Int) < (↑x2 : Int)) = false) → (Ob ((((0 : Int) ≤ (↑x2 : Int)) ∧ ((↑x2 : Int) < (↑l.length : Int)))) ∧ (((decide ((elCell l x2 (1 : Nat)).toInt < (0 : Int)) = true) → (((50 : Int) = checkS l) ∧ (True))) ∧ ((decide ((elCell l x2 (1 : Nat)).toInt < (0 : Int)) = false) → (Ob ((((0 : Int) ≤ (↑x2 : Int)) ∧ ((↑x2 : Int) < (↑l.length : Int)))) ∧ (((decide ((10000 : Int) < (elCell l x2 (1 : Nat)).toInt) = true) → (((50 : Int) = checkS l) ∧ (True))) ∧ ((decide ((10000 : Int) < (elCell l x2 (1 : Nat)).toInt) = false) → (Ob ((((0 : Int) ≤ (↑x2 : Int)) ∧ ((↑x2 : Int) < (↑l.length : Int)))) ∧ (((decide ((elCell l x2 (2 : Nat)).toInt < (0 : Int)) = true) → (((50 : Int) = checkS l) ∧ (True))) ∧ ((decide ((elCell l x2 (2 : Nat)).toInt < (0 : Int)) = false) → (Ob ((((0 : Int) ≤ (↑x2 : Int)) ∧ ((↑x2 : Int) < (↑l.length : Int)))) ∧ (((decide ((10000 : Int) < (elCell l x2 (2 : Nat)).toInt) = true) → (((50 : Int) = checkS l) ∧ (True))) ∧ ((decide ((10000 : Int) < (elCell l x2 (2 : Nat)).toInt) = false) → (∃ (x4 : Nat), ((l = l) ∧ ((IntKind.i64.wrap ((↑x2 : Int) + (1 : Int)) = (↑x4 : Int)) ∧ (((x4 ≤ l.length) ∧ (((1 : Nat) ≤ l.length) ∧ ((l.length ≤ (8 : Nat)) ∧ (bErrs l x4 = (0 : Int))))) ∧ ((l.length - x4 < l.length - x2) ∧ (True)))))))))))))))))))))))) ∧ ((decide ((↑x2 : Int) = (0 : Int)) = false) → (((decide ((0 : Int) < (↑x2 : Int)) = true) → (Ob ((((0 : Int) ≤ (↑x2 : Int)) ∧ ((↑x2 : Int) < (↑l.length : Int)))) ∧ (Ob ((((0 : Int) ≤ IntKind.i64.wrap ((↑x2 : Int) - (1 : Int))) ∧ (IntKind.i64.wrap ((↑x2 : Int) - (1 : Int)) < (↑l.length : Int)))) ∧ (((decide ((elCell l x2 (0 : Nat)).toInt ≤ (elCell l (IntKind.i64.wrap ((↑x2 : Int) - (1 : Int))).toNat (0 : Nat)).toInt) = true) → (((6 : Int) = checkS l) ∧ (True))) ∧ ((decide ((elCell l x2 (0 : Nat)).toInt ≤ (elCell l (IntKind.i64.wrap ((↑x2 : Int) - (1 : Int))).toNat (0 : Nat)).toInt) = false) → (Ob ((((0 : Int) ≤ (↑x2 : Int)) ∧ ((↑x2 : Int) < (↑l.length : Int)))) ∧ (((decide ((elCell l x2 (1 : Nat)).toInt < (0 : Int)) = true) → (((50 : Int) = checkS l) ∧ (True))) ∧ ((decide ((elCell l x2 (1 : Nat)).toInt < (0 : Int)) = false) → (Ob ((((0 : Int) ≤ (↑x2 : Int)) ∧ ((↑x2 : Int) < (↑l.length : Int)))) ∧ (((decide ((10000 : Int) < (elCell l x2 (1 : Nat)).toInt) = true) → (((50 : Int) = checkS l) ∧ (True))) ∧ ((decide ((10000 : Int) < (elCell l x2 (1 : Nat)).toInt) = false) → (Ob ((((0 : Int) ≤ (↑x2 : Int)) ∧ ((↑x2 : Int) < (↑l.length : Int)))) ∧ (((decide ((elCell l x2 (2 : Nat)).toInt < (0 : Int)) = true) → (((50 : Int) = checkS l) ∧ (True))) ∧ ((decide ((elCell l x2 (2 : Nat)).toInt < (0 : Int)) = false) → (Ob ((((0 : Int) ≤ (↑x2 : Int)) ∧ ((↑x2 : Int) < (↑l.length : Int)))) ∧ (((decide ((10000 : Int) < (elCell l x2 (2 : Nat)).toInt) = true) → (((50 : Int) = checkS l) ∧ (True))) ∧ ((decide ((10000 : Int) < (elCell l x2 (2 : Nat)).toInt) = false) → (∃ (x5 : Nat), ((l = l) ∧ ((IntKind.i64.wrap ((↑x2 : Int) + (1 : Int)) = (↑x5 : Int)) ∧ (((x5 ≤ l.length) ∧ (((1 : Nat) ≤ l.length) ∧ ((l.length ≤ (8 : Nat)) ∧ (bErrs l x5 = (0 : Int))))) ∧ ((l.length - x5 < l.length - x2) ∧ (True))))))))))))))))))))))) ∧ ((decide ((0 : Int) < (↑x2 : Int)) = false) → (Ob ((((0 : Int) ≤ (↑x2 : Int)) ∧ ((↑x2 : Int) < (↑l.length : Int)))) ∧ (((decide ((elCell l x2 (1 : Nat)).toInt < (0 : Int)) = true) → (((50 : Int) = checkS l) ∧ (True))) ∧ ((decide ((elCell l x2 (1 : Nat)).toInt < (0 : Int)) = false) → (Ob ((((0 : Int) ≤ (↑x2 : Int)) ∧ ((↑x2 : Int) < (↑l.length : Int)))) ∧ (((decide ((10000 : Int) < (elCell l x2 (1 : Nat)).toInt) = true) → (((50 : Int) = checkS l) ∧ (True))) ∧ ((decide ((10000 : Int) < (elCell l x2 (1 : Nat)).toInt) = false) → (Ob ((((0 : Int) ≤ (↑x2 : Int)) ∧ ((↑x2 : Int) < (↑l.length : Int)))) ∧ (((decide ((elCell l x2 (2 : Nat)).toInt < (0 : Int)) = true) → (((50 : Int) = checkS l) ∧ (True))) ∧ ((decide ((elCell l x2 (2 : Nat)).toInt < (0 : Int)) = false) → (Ob ((((0 : Int) ≤ (↑x2 : Int)) ∧ ((↑x2 : Int) < (↑l.length : Int)))) ∧ (((decide ((10000 : Int) < (elCell l x2 (2 : Nat)).toInt) = true) → (((50 : Int) = checkS l) ∧ (True))) ∧ ((decide ((10000 : Int) < (elCell l x2 (2 : Nat)).toInt) = false) → (∃ (x6 : Nat), ((l = l) ∧ ((IntKind.i64.wrap ((↑x2 : Int) + (1 : Int)) = (↑x6 : Int)) ∧ (((x6 ≤ l.length) ∧ (((1 : Nat) ≤ l.length) ∧ ((l.length ≤ (8 : Nat)) ∧ (bErrs l x6 = (0 : Int))))) ∧ ((l.length - x6 < l.length - x2) ∧ (True))))))))))))))))))))))))))))) ∧ ((decide ((↑x2 : Int) < (↑l.length : Int)) = false) → (((0 : Int) = checkS l) ∧ (True)))))))))))) := by kernel_rfl
def sh_rbexact : List SV → Option (Int × (List SV) × Bool)
  | [.int .i64 x, l', b'] => (match slOf [.int .i64, .int .i64, .int .i64] l' with | some l => (match bOf b' with | some b => some (x, l, b) | none => none) | none => none)
  | _ => none
def em_rbexact : Int × (List SV) × Bool → List SV := fun (x, l, b) => [.int .i64 x, .sl [.int .i64, .int .i64, .int .i64] l, .bool b]
theorem sh_rbexact_le : ∀ us a, sh_rbexact us = some a → leL us (em_rbexact a) := by
  intro us a h
  unfold sh_rbexact at h
  split at h
  · split at h
    · split at h
      · cases h; exact (.cons (.refl _) (.cons (.sl (by assumption)) (.cons (.bool (by assumption)) .nil)))
      · cases h
    · cases h
  · cases h
def rbexactC : Con := conOf sh_rbexact (fun (x, l, b) => some (Ob (checkS l = 0 ∧ rightB x = true))) (fun (x, l, b) => .int .i64 (rSum (kOf b) x l l.length))
set_option maxRecDepth 100000 in
theorem vc_rbexact (x : Int) (l : List SV) (b : Bool) : (wpF ⟨50, tyT, [], false⟩ ((rex_an x l b)) [] Try.f15 (em_rbexact (x, l, b)) (.int .i64 (rSum (kOf b) x l l.length))) = (((∃ (x1 : Nat), ((x = x) ∧ ((l = l) ∧ ((b = b) ∧ (((0 : Int) = rSum (kOf b) x l x1) ∧ (((0 : Int) = prevR (kOf b) l x1) ∧ (((0 : Int) = (↑x1 : Int)) ∧ (((x1 ≤ l.length) ∧ ((checkS l = (0 : Int)) ∧ (rightB x = true))) ∧ ((True) ∧ (True)))))))))) ∧ (∀ (x2 : Nat), (((x2 ≤ l.length) ∧ ((checkS l = (0 : Int)) ∧ (rightB x = true))) → (((decide ((↑x2 : Int) < (↑l.length : Int)) = true) → (Ob ((((0 : Int) ≤ (↑x2 : Int)) ∧ ((↑x2 : Int) < (↑l.length : Int)))) ∧ (((b = true) → (Ob ((((0 : Int) ≤ (↑x2 : Int)) ∧ ((↑x2 : Int) < (↑l.length : Int)))) ∧ (Ob ((((0 : Int) ≤ (↑x2 : Int)) ∧ ((↑x2 : Int) < (↑l.length : Int)))) ∧ (((decide ((elCell l x2 (0 : Nat)).toInt < x) = true) → (Ob ((((0 : Int) ≤ (↑x2 : Int)) ∧ ((↑x2 : Int) < (↑l.length : Int)))) ∧ (∃ (x3 : Nat), ((x = x) ∧ ((l = l) ∧ ((b = b) ∧ ((IntKind.i64.wrap (rSum (kOf b) x l x2 + IntKind.i64.wrap (IntKind.i64.wrap (x - (elCell l x2 (0 : Nat)).toInt) * IntKind.i64.wrap ((elCell l x2 (2 : Nat)).toInt - prevR (kOf b) l x2))) = rSum (kOf b) x l x3) ∧ (((elCell l x2 (2 : Nat)).toInt = prevR (kOf b) l x3) ∧ ((IntKind.i64.wrap ((↑x2 : Int) + (1 : Int)) = (↑x3 : Int)) ∧ (((x3 ≤ l.length) ∧ ((checkS l = (0 : Int)) ∧ (rightB x = true))) ∧ ((l.length - x3 < l.length - x2) ∧ (True)))))))))))) ∧ ((decide ((elCell l x2 (0 : Nat)).toInt < x) = false) → (∃ (x4 : Nat), ((x = x) ∧ ((l = l) ∧ ((b = b) ∧ ((rSum (kOf b) x l x2 = rSum (kOf b) x l x4) ∧ (((elCell l x2 (2 : Nat)).toInt = prevR (kOf b) l x4) ∧ ((IntKind.i64.wrap ((↑x2 : Int) + (1 : Int)) = (↑x4 : Int)) ∧ (((x4 ≤ l.length) ∧ ((checkS l = (0 : Int)) ∧ (rightB x = true))) ∧ ((l.length - x4 < l.length - x2) ∧ (True))))))))))))))) ∧ ((b = false) → (Ob ((((0 : Int) ≤ (↑x2 : Int)) ∧ ((↑x2 : Int) < (↑l.length : Int)))) ∧ (((decide ((elCell l x2 (0 : Nat)).toInt < x) = true) → (Ob ((((0 : Int) ≤ (↑x2 : Int)) ∧ ((↑x2 : Int) < (↑l.length : Int)))) ∧ (∃ (x5 : Nat), ((x = x) ∧ ((l = l) ∧ ((b = b) ∧ ((IntKind.i64.wrap (rSum (kOf b) x l x2 + IntKind.i64.wrap (IntKind.i64.wrap (x - (elCell l x2 (0 : Nat)).toInt) * IntKind.i64.wrap ((elCell l x2 (1 : Nat)).toInt - prevR (kOf b) l x2))) = rSum (kOf b) x l x5) ∧ (((elCell l x2 (1 : Nat)).toInt = prevR (kOf b) l x5) ∧ ((IntKind.i64.wrap ((↑x2 : Int) + (1 : Int)) = (↑x5 : Int)) ∧ (((x5 ≤ l.length) ∧ ((checkS l = (0 : Int)) ∧ (rightB x = true))) ∧ ((l.length - x5 < l.length - x2) ∧ (True)))))))))))) ∧ ((decide ((elCell l x2 (0 : Nat)).toInt < x) = false) → (∃ (x6 : Nat), ((x = x) ∧ ((l = l) ∧ ((b = b) ∧ ((rSum (kOf b) x l x2 = rSum (kOf b) x l x6) ∧ (((elCell l x2 (1 : Nat)).toInt = prevR (kOf b) l x6) ∧ ((IntKind.i64.wrap ((↑x2 : Int) + (1 : Int)) = (↑x6 : Int)) ∧ (((x6 ≤ l.length) ∧ ((checkS l = (0 : Int)) ∧ (rightB x = true))) ∧ ((l.length - x6 < l.length - x2) ∧ (True))))))))))))))))) ∧ ((decide ((↑x2 : Int) < (↑l.length : Int)) = false) → ((rSum (kOf b) x l x2 = rSum (kOf b) x l l.length) ∧ (True)))))))) := by kernel_rfl
def sh_rbpart : List SV → Option (Int × Int × Int)
  | [.int .i64 x, .int .i64 n, .int .i64 d] => some (x, n, d)
  | _ => none
def em_rbpart : Int × Int × Int → List SV := fun (x, n, d) => [.int .i64 x, .int .i64 n, .int .i64 d]
theorem sh_rbpart_le : ∀ us a, sh_rbpart us = some a → leL us (em_rbpart a) := by
  intro us a h
  unfold sh_rbpart at h
  split at h
  · cases h; exact (.cons (.refl _) (.cons (.refl _) (.cons (.refl _) .nil)))
  · cases h
def rbpartC : Con := conOf sh_rbpart (fun (x, n, d) => some (Ob (0 ≤ x ∧ x ≤ 100000000000 ∧ 0 ≤ n ∧ n ≤ d ∧ 1 ≤ d ∧ d ≤ 1048576))) (fun (x, n, d) => .int .i64 (partS x n d))
set_option maxRecDepth 100000 in
theorem vc_rbpart (x : Int) (n : Int) (d : Int) : (wpF ⟨12, tyT, [], false⟩ (noAnn) [] Try.f20 (em_rbpart (x, n, d)) (.int .i64 (partS x n d))) = ((Ob ((d ≠ (0 : Int))) ∧ ((IntKind.i64.wrap ((IntKind.i64.wrap (x * n)).tdiv d) = partS x n d) ∧ (True)))) := by kernel_rfl
def sh_bfind : List SV → Option (Int × (List SV))
  | [.int .i64 x, l'] => (match slOf [.int .i64, .int .i64, .int .i64] l' with | some l => some (x, l) | none => none)
  | _ => none
def em_bfind : Int × (List SV) → List SV := fun (x, l) => [.int .i64 x, .sl [.int .i64, .int .i64, .int .i64] l]
theorem sh_bfind_le : ∀ us a, sh_bfind us = some a → leL us (em_bfind a) := by
  intro us a h
  unfold sh_bfind at h
  split at h
  · split at h
    · cases h; exact (.cons (.refl _) (.cons (.sl (by assumption)) .nil))
    · cases h
  · cases h
def bfindC : Con := conOf sh_bfind (fun (x, l) => some (Ob (1 ≤ l.length ∧ l.length ≤ 1000))) (fun (x, l) => .int .i64 (findS x l))
set_option maxRecDepth 100000 in
theorem vc_bfind (x : Int) (l : List SV) : (wpF ⟨24, tyT, [], false⟩ ((find_an x l)) [] Try.f17 (em_bfind (x, l)) (.int .i64 (findS x l))) = (((∃ (x1 : Nat), ((x = x) ∧ ((l = l) ∧ (((0 : Int) = (↑x1 : Int)) ∧ (((x1 ≤ l.length) ∧ ((l.length ≤ (1000 : Nat)) ∧ (findN x l (l.length - x1) x1 = findS x l))) ∧ ((True) ∧ (True))))))) ∧ (∀ (x2 : Nat), (((x2 ≤ l.length) ∧ ((l.length ≤ (1000 : Nat)) ∧ (findN x l (l.length - x2) x2 = findS x l))) → (((decide (IntKind.i64.wrap ((↑x2 : Int) + (1 : Int)) < (↑l.length : Int)) = true) → (Ob ((((0 : Int) ≤ IntKind.i64.wrap ((↑x2 : Int) + (1 : Int))) ∧ (IntKind.i64.wrap ((↑x2 : Int) + (1 : Int)) < (↑l.length : Int)))) ∧ (((decide ((elCell l (IntKind.i64.wrap ((↑x2 : Int) + (1 : Int))).toNat (0 : Nat)).toInt < x) = true) → (∃ (x3 : Nat), ((x = x) ∧ ((l = l) ∧ ((IntKind.i64.wrap ((↑x2 : Int) + (1 : Int)) = (↑x3 : Int)) ∧ (((x3 ≤ l.length) ∧ ((l.length ≤ (1000 : Nat)) ∧ (findN x l (l.length - x3) x3 = findS x l))) ∧ ((l.length - x3 < l.length - x2) ∧ (True)))))))) ∧ ((decide ((elCell l (IntKind.i64.wrap ((↑x2 : Int) + (1 : Int))).toNat (0 : Nat)).toInt < x) = false) → (((↑x2 : Int) = (↑(findS x l) : Int)) ∧ (True)))))) ∧ ((decide (IntKind.i64.wrap ((↑x2 : Int) + (1 : Int)) < (↑l.length : Int)) = false) → (((↑x2 : Int) = (↑(findS x l) : Int)) ∧ (True)))))))) := by kernel_rfl
def sh_btop : List SV → Option (List SV)
  | [l'] => (match slOf [.int .i64, .int .i64, .int .i64] l' with | some l => some l | none => none)
  | _ => none
def em_btop : List SV → List SV := fun l => [.sl [.int .i64, .int .i64, .int .i64] l]
theorem sh_btop_le : ∀ us a, sh_btop us = some a → leL us (em_btop a) := by
  intro us a h
  unfold sh_btop at h
  split at h
  · split at h
    · cases h; exact (.cons (.sl (by assumption)) .nil)
    · cases h
  · cases h
def btopC : Con := conOf sh_btop (fun l => some (Ob (l.length ≤ 1000))) (fun l => .int .i64 (topS l))
set_option maxRecDepth 100000 in
theorem vc_btop (l : List SV) : (wpF ⟨18, tyT, [], false⟩ ((top_an l)) [] Try.f19 (em_btop l) (.int .i64 (topS l))) = (((∃ (x1 : Nat), (((0 : Int) = topN l x1) ∧ ((l = l) ∧ (((↑l.length : Int) = (↑l.length : Int)) ∧ (((0 : Int) = (↑x1 : Int)) ∧ (((x1 ≤ l.length) ∧ (l.length ≤ (1000 : Nat))) ∧ ((True) ∧ (True)))))))) ∧ (∀ (x2 : Nat), (((x2 ≤ l.length) ∧ (l.length ≤ (1000 : Nat))) → (((decide ((↑x2 : Int) < (↑l.length : Int)) = true) → (Ob ((((0 : Int) ≤ (↑x2 : Int)) ∧ ((↑x2 : Int) < (↑l.length : Int)))) ∧ (∃ (x3 : Nat), ((maxV (topN l x2) (elCell l x2 (1 : Nat)).toInt = topN l x3) ∧ ((l = l) ∧ (((↑l.length : Int) = (↑l.length : Int)) ∧ ((IntKind.i64.wrap ((↑x2 : Int) + (1 : Int)) = (↑x3 : Int)) ∧ (((x3 ≤ l.length) ∧ (l.length ≤ (1000 : Nat))) ∧ ((l.length - x3 < l.length - x2) ∧ (True)))))))))) ∧ ((decide ((↑x2 : Int) < (↑l.length : Int)) = false) → ((topN l x2 = topS l) ∧ (True)))))))) := by kernel_rfl
def sh_bcorn : List SV → Option (List SV)
  | [l'] => (match slOf [.int .i64, .int .i64, .int .i64] l' with | some l => some l | none => none)
  | _ => none
def em_bcorn : List SV → List SV := fun l => [.sl [.int .i64, .int .i64, .int .i64] l]
theorem sh_bcorn_le : ∀ us a, sh_bcorn us = some a → leL us (em_bcorn a) := by
  intro us a h
  unfold sh_bcorn at h
  split at h
  · split at h
    · cases h; exact (.cons (.sl (by assumption)) .nil)
    · cases h
  · cases h
def bcornC : Con := conOf sh_bcorn (fun l => some (Ob (l.length ≤ 1000))) (fun l => .sl [.int .i64] (cornS l))
set_option maxRecDepth 100000 in
theorem vc_bcorn (l : List SV) : (wpF ⟨22, tyT, [], false⟩ ((corn_an l)) [] Try.f23 (em_bcorn l) (.sl [.int .i64] (cornS l))) = (((∃ (x1 : Nat), ((l = l) ∧ (((↑l.length : Int) = (↑l.length : Int)) ∧ (((0 : Int) = (↑x1 : Int)) ∧ (([] = cornN l x1) ∧ (((x1 ≤ l.length) ∧ (l.length ≤ (1000 : Nat))) ∧ ((True) ∧ (True)))))))) ∧ (∀ (x2 : Nat), (((x2 ≤ l.length) ∧ (l.length ≤ (1000 : Nat))) → (((decide ((↑x2 : Int) < (↑l.length : Int)) = true) → (Ob ((((0 : Int) ≤ (↑x2 : Int)) ∧ ((↑x2 : Int) < (↑l.length : Int)))) ∧ (((decide ((0 : Int) < (↑x2 : Int)) = true) → (Ob (((((cornN l x2).length + (1 : Nat)) * (8 : Nat) ≤ (1099511627776 : Nat)) ∧ ((cornN l x2).length + (1 : Nat) ≤ (1099511627776 : Nat)))) ∧ (∃ (x3 : Nat), ((l = l) ∧ (((↑l.length : Int) = (↑l.length : Int)) ∧ ((IntKind.i64.wrap ((↑x2 : Int) + (1 : Int)) = (↑x3 : Int)) ∧ ((cornN l x2 ++ [SV.int IntKind.i64 (elCell l x2 (0 : Nat)).toInt] = cornN l x3) ∧ (((x3 ≤ l.length) ∧ (l.length ≤ (1000 : Nat))) ∧ ((l.length - x3 < l.length - x2) ∧ (True)))))))))) ∧ ((decide ((0 : Int) < (↑x2 : Int)) = false) → (∃ (x4 : Nat), ((l = l) ∧ (((↑l.length : Int) = (↑l.length : Int)) ∧ ((IntKind.i64.wrap ((↑x2 : Int) + (1 : Int)) = (↑x4 : Int)) ∧ ((cornN l x2 = cornN l x4) ∧ (((x4 ≤ l.length) ∧ (l.length ≤ (1000 : Nat))) ∧ ((l.length - x4 < l.length - x2) ∧ (True)))))))))))) ∧ ((decide ((↑x2 : Int) < (↑l.length : Int)) = false) → ((cornN l x2 = cornS l) ∧ (True)))))))) := by kernel_rfl
def sh_bjoin : List SV → Option (List SV)
  | [l'] => (match slOf [.int .i64, .int .i64, .int .i64] l' with | some l => some l | none => none)
  | _ => none
def em_bjoin : List SV → List SV := fun l => [.sl [.int .i64, .int .i64, .int .i64] l]
theorem sh_bjoin_le : ∀ us a, sh_bjoin us = some a → leL us (em_bjoin a) := by
  intro us a h
  unfold sh_bjoin at h
  split at h
  · split at h
    · cases h; exact (.cons (.sl (by assumption)) .nil)
    · cases h
  · cases h
def bjoinC : Con := conOf sh_bjoin (fun l => some (Ob (l.length ≤ 1000))) (fun l => .sl bandK (joinS l))
set_option maxRecDepth 100000 in
theorem vc_bjoin (l : List SV) : (wpF ⟨45, tyT, [], false⟩ ((join_an l)) [] Try.f21 (em_bjoin l) (.sl bandK (joinS l))) = (((∃ (x1 : Nat), ((l = l) ∧ (((↑l.length : Int) = (↑l.length : Int)) ∧ (((0 : Int) = (↑x1 : Int)) ∧ (([] = joinN l x1) ∧ (((x1 ≤ l.length) ∧ (l.length ≤ (1000 : Nat))) ∧ ((True) ∧ (True)))))))) ∧ (∀ (x2 : Nat), (((x2 ≤ l.length) ∧ (l.length ≤ (1000 : Nat))) → (((decide ((↑x2 : Int) < (↑l.length : Int)) = true) → (Ob ((((0 : Int) ≤ (↑x2 : Int)) ∧ ((↑x2 : Int) < (↑l.length : Int)))) ∧ (((decide ((0 : Int) < (↑(joinN l x2).length : Int)) = true) → (Ob ((((0 : Int) ≤ IntKind.i64.wrap ((↑(joinN l x2).length : Int) - (1 : Int))) ∧ (IntKind.i64.wrap ((↑(joinN l x2).length : Int) - (1 : Int)) < (↑(joinN l x2).length : Int)))) ∧ (Ob (((IntKind.i64.wrap ((↑(joinN l x2).length : Int) - (1 : Int))).toNat < (joinN l x2).length)) ∧ (Ob (((IntKind.i64.wrap ((↑(joinN l x2).length : Int) - (1 : Int))).toNat < (joinN l x2).length)) ∧ (((decide ((elCell (joinN l x2) (IntKind.i64.wrap ((↑(joinN l x2).length : Int) - (1 : Int))).toNat (1 : Nat)).toInt = (elCell l x2 (1 : Nat)).toInt) = true) → (Ob ((((0 : Int) ≤ IntKind.i64.wrap ((↑(joinN l x2).length : Int) - (1 : Int))) ∧ (IntKind.i64.wrap ((↑(joinN l x2).length : Int) - (1 : Int)) < (↑(joinN l x2).length : Int)))) ∧ (Ob (((IntKind.i64.wrap ((↑(joinN l x2).length : Int) - (1 : Int))).toNat < (joinN l x2).length)) ∧ (Ob (((IntKind.i64.wrap ((↑(joinN l x2).length : Int) - (1 : Int))).toNat < (joinN l x2).length)) ∧ (((decide ((elCell (joinN l x2) (IntKind.i64.wrap ((↑(joinN l x2).length : Int) - (1 : Int))).toNat (2 : Nat)).toInt = (elCell l x2 (2 : Nat)).toInt) = true) → (∃ (x3 : Nat), ((l = l) ∧ (((↑l.length : Int) = (↑l.length : Int)) ∧ ((IntKind.i64.wrap ((↑x2 : Int) + (1 : Int)) = (↑x3 : Int)) ∧ ((joinN l x2 = joinN l x3) ∧ (((x3 ≤ l.length) ∧ (l.length ≤ (1000 : Nat))) ∧ ((l.length - x3 < l.length - x2) ∧ (True))))))))) ∧ ((decide ((elCell (joinN l x2) (IntKind.i64.wrap ((↑(joinN l x2).length : Int) - (1 : Int))).toNat (2 : Nat)).toInt = (elCell l x2 (2 : Nat)).toInt) = false) → (Ob (((((joinN l x2).length + (1 : Nat)) * (24 : Nat) ≤ (1099511627776 : Nat)) ∧ ((joinN l x2).length + (1 : Nat) ≤ (1099511627776 : Nat)))) ∧ (∃ (x4 : Nat), ((l = l) ∧ (((↑l.length : Int) = (↑l.length : Int)) ∧ ((IntKind.i64.wrap ((↑x2 : Int) + (1 : Int)) = (↑x4 : Int)) ∧ ((joinN l x2 ++ [SV.agg [SV.int IntKind.i64 (elCell l x2 (0 : Nat)).toInt, SV.int IntKind.i64 (elCell l x2 (1 : Nat)).toInt, SV.int IntKind.i64 (elCell l x2 (2 : Nat)).toInt]] = joinN l x4) ∧ (((x4 ≤ l.length) ∧ (l.length ≤ (1000 : Nat))) ∧ ((l.length - x4 < l.length - x2) ∧ (True))))))))))))))) ∧ ((decide ((elCell (joinN l x2) (IntKind.i64.wrap ((↑(joinN l x2).length : Int) - (1 : Int))).toNat (1 : Nat)).toInt = (elCell l x2 (1 : Nat)).toInt) = false) → (Ob (((((joinN l x2).length + (1 : Nat)) * (24 : Nat) ≤ (1099511627776 : Nat)) ∧ ((joinN l x2).length + (1 : Nat) ≤ (1099511627776 : Nat)))) ∧ (∃ (x5 : Nat), ((l = l) ∧ (((↑l.length : Int) = (↑l.length : Int)) ∧ ((IntKind.i64.wrap ((↑x2 : Int) + (1 : Int)) = (↑x5 : Int)) ∧ ((joinN l x2 ++ [SV.agg [SV.int IntKind.i64 (elCell l x2 (0 : Nat)).toInt, SV.int IntKind.i64 (elCell l x2 (1 : Nat)).toInt, SV.int IntKind.i64 (elCell l x2 (2 : Nat)).toInt]] = joinN l x5) ∧ (((x5 ≤ l.length) ∧ (l.length ≤ (1000 : Nat))) ∧ ((l.length - x5 < l.length - x2) ∧ (True))))))))))))))) ∧ ((decide ((0 : Int) < (↑(joinN l x2).length : Int)) = false) → (Ob (((((joinN l x2).length + (1 : Nat)) * (24 : Nat) ≤ (1099511627776 : Nat)) ∧ ((joinN l x2).length + (1 : Nat) ≤ (1099511627776 : Nat)))) ∧ (∃ (x6 : Nat), ((l = l) ∧ (((↑l.length : Int) = (↑l.length : Int)) ∧ ((IntKind.i64.wrap ((↑x2 : Int) + (1 : Int)) = (↑x6 : Int)) ∧ ((joinN l x2 ++ [SV.agg [SV.int IntKind.i64 (elCell l x2 (0 : Nat)).toInt, SV.int IntKind.i64 (elCell l x2 (1 : Nat)).toInt, SV.int IntKind.i64 (elCell l x2 (2 : Nat)).toInt]] = joinN l x6) ∧ (((x6 ≤ l.length) ∧ (l.length ≤ (1000 : Nat))) ∧ ((l.length - x6 < l.length - x2) ∧ (True))))))))))))) ∧ ((decide ((↑x2 : Int) < (↑l.length : Int)) = false) → ((joinN l x2 = joinS l) ∧ (True)))))))) := by kernel_rfl
def sh_beql : List SV → Option ((List SV) × (List SV))
  | [a', b'] => (match slOf [.int .i64, .int .i64, .int .i64] a' with | some a => (match slOf [.int .i64, .int .i64, .int .i64] b' with | some b => some (a, b) | none => none) | none => none)
  | _ => none
def em_beql : (List SV) × (List SV) → List SV := fun (a, b) => [.sl [.int .i64, .int .i64, .int .i64] a, .sl [.int .i64, .int .i64, .int .i64] b]
theorem sh_beql_le : ∀ us a, sh_beql us = some a → leL us (em_beql a) := by
  intro us a h
  unfold sh_beql at h
  split at h
  · split at h
    · split at h
      · cases h; exact (.cons (.sl (by assumption)) (.cons (.sl (by assumption)) .nil))
      · cases h
    · cases h
  · cases h
def beqlC : Con := conOf sh_beql (fun (a, b) => some (Ob (a.length ≤ 1000))) (fun (a, b) => .bool (rowsEq a b))
set_option maxRecDepth 100000 in
theorem vc_beql (a : List SV) (b : List SV) : (wpF ⟨26, tyT, [], false⟩ ((eql_an a b)) [] Try.f36 (em_beql (a, b)) (.bool (rowsEq a b))) = (((((!decide ((↑a.length : Int) = (↑b.length : Int))) = true) → ((rowsEq a b = false) ∧ (True))) ∧ (((!decide ((↑a.length : Int) = (↑b.length : Int))) = false) → ((∃ (x1 : Nat), ((a = a) ∧ ((b = b) ∧ (((↑a.length : Int) = (↑a.length : Int)) ∧ (((0 : Int) = (↑x1 : Int)) ∧ (((x1 ≤ a.length) ∧ ((a.length = b.length) ∧ ((a.length ≤ (1000 : Nat)) ∧ ((List.range x1).all (rowEq a b) = true)))) ∧ ((True) ∧ (True)))))))) ∧ (∀ (x2 : Nat), (((x2 ≤ a.length) ∧ ((a.length = b.length) ∧ ((a.length ≤ (1000 : Nat)) ∧ ((List.range x2).all (rowEq a b) = true)))) → (((decide ((↑x2 : Int) < (↑a.length : Int)) = true) → (Ob ((((0 : Int) ≤ (↑x2 : Int)) ∧ ((↑x2 : Int) < (↑a.length : Int)))) ∧ (Ob ((((0 : Int) ≤ (↑x2 : Int)) ∧ ((↑x2 : Int) < (↑b.length : Int)))) ∧ ((((!(decide ((elCell a x2 (0 : Nat)).toInt = (elCell b x2 (0 : Nat)).toInt) && (decide ((elCell a x2 (1 : Nat)).toInt = (elCell b x2 (1 : Nat)).toInt) && decide ((elCell a x2 (2 : Nat)).toInt = (elCell b x2 (2 : Nat)).toInt)))) = true) → ((rowsEq a b = false) ∧ (True))) ∧ (((!(decide ((elCell a x2 (0 : Nat)).toInt = (elCell b x2 (0 : Nat)).toInt) && (decide ((elCell a x2 (1 : Nat)).toInt = (elCell b x2 (1 : Nat)).toInt) && decide ((elCell a x2 (2 : Nat)).toInt = (elCell b x2 (2 : Nat)).toInt)))) = false) → (∃ (x3 : Nat), ((a = a) ∧ ((b = b) ∧ (((↑a.length : Int) = (↑a.length : Int)) ∧ ((IntKind.i64.wrap ((↑x2 : Int) + (1 : Int)) = (↑x3 : Int)) ∧ (((x3 ≤ a.length) ∧ ((a.length = b.length) ∧ ((a.length ≤ (1000 : Nat)) ∧ ((List.range x3).all (rowEq a b) = true)))) ∧ ((a.length - x3 < a.length - x2) ∧ (True))))))))))))) ∧ ((decide ((↑x2 : Int) < (↑a.length : Int)) = false) → ((rowsEq a b = true) ∧ (True)))))))))) := by kernel_rfl
def sh_bsame : List SV → Option ((List SV) × (List SV))
  | [a', b'] => (match slOf [.int .i64, .int .i64, .int .i64] a' with | some a => (match slOf [.int .i64, .int .i64, .int .i64] b' with | some b => some (a, b) | none => none) | none => none)
  | _ => none
def em_bsame : (List SV) × (List SV) → List SV := fun (a, b) => [.sl [.int .i64, .int .i64, .int .i64] a, .sl [.int .i64, .int .i64, .int .i64] b]
theorem sh_bsame_le : ∀ us a, sh_bsame us = some a → leL us (em_bsame a) := by
  intro us a h
  unfold sh_bsame at h
  split at h
  · split at h
    · split at h
      · cases h; exact (.cons (.sl (by assumption)) (.cons (.sl (by assumption)) .nil))
      · cases h
    · cases h
  · cases h
def bsameC : Con := conOf sh_bsame (fun (a, b) => some (Ob (a.length ≤ 1000 ∧ b.length ≤ 1000))) (fun (a, b) => .bool (rowsEq (joinS a) (joinS b)))
set_option maxRecDepth 100000 in
theorem vc_bsame (a : List SV) (b : List SV) : (wpF ⟨10, tyT, [(21, bjoinC), (36, beqlC)], false⟩ (noAnn) [] Try.f22 (em_bsame (a, b)) (.bool (rowsEq (joinS a) (joinS b)))) = ((Ob ((a.length ≤ (1000 : Nat))) ∧ (Ob ((b.length ≤ (1000 : Nat))) ∧ (Ob (((joinS a).length ≤ (1000 : Nat))) ∧ ((rowsEq (joinS a) (joinS b) = rowsEq (joinS a) (joinS b)) ∧ (True)))))) := by kernel_rfl
def sh_bscale : List SV → Option (Int × Int × (List SV))
  | [.int .i64 n, .int .i64 d, l'] => (match slOf [.int .i64, .int .i64, .int .i64] l' with | some l => some (n, d, l) | none => none)
  | _ => none
def em_bscale : Int × Int × (List SV) → List SV := fun (n, d, l) => [.int .i64 n, .int .i64 d, .sl [.int .i64, .int .i64, .int .i64] l]
theorem sh_bscale_le : ∀ us a, sh_bscale us = some a → leL us (em_bscale a) := by
  intro us a h
  unfold sh_bscale at h
  split at h
  · split at h
    · cases h; exact (.cons (.refl _) (.cons (.refl _) (.cons (.sl (by assumption)) .nil)))
    · cases h
  · cases h
def bscaleC : Con := conOf sh_bscale (fun (n, d, l) => some (Ob (in64 n ∧ in64 d))) (fun (n, d, l) => .tup [.sl bandK (scS n d l), .int .i64 (scE n d l)])
set_option maxRecDepth 100000 in
theorem vc_bscale (n : Int) (d : Int) (l : List SV) : (wpF ⟨78, tyT, [(13, bcheckC), (34, scaleC)], false⟩ ((sc_an n d l)) [] Try.f14 (em_bscale (n, d, l)) (.tup [.sl bandK (scS n d l), .int .i64 (scE n d l)])) = (((((!decide (checkS l = (0 : Int))) = true) → ((scS n d l = []) ∧ ((checkS l = scE n d l) ∧ (True)))) ∧ (((!decide (checkS l = (0 : Int))) = false) → (((decide (n < (0 : Int)) = true) → ((scS n d l = []) ∧ (((1 : Int) = scE n d l) ∧ (True)))) ∧ ((decide (n < (0 : Int)) = false) → (((decide (d < (1 : Int)) = true) → ((scS n d l = []) ∧ (((1 : Int) = scE n d l) ∧ (True)))) ∧ ((decide (d < (1 : Int)) = false) → (((decide (d < n) = true) → ((scS n d l = []) ∧ (((1 : Int) = scE n d l) ∧ (True)))) ∧ ((decide (d < n) = false) → (((decide ((1048576 : Int) < d) = true) → ((scS n d l = []) ∧ (((1 : Int) = scE n d l) ∧ (True)))) ∧ ((decide ((1048576 : Int) < d) = false) → ((∃ (x1 : Nat), ((n = n) ∧ ((d = d) ∧ ((l = l) ∧ (((↑l.length : Int) = (↑l.length : Int)) ∧ (((0 : Int) = (↑x1 : Int)) ∧ (([] = scN n d l x1) ∧ (((x1 ≤ l.length) ∧ ((checkS l = (0 : Int)) ∧ (scaleOk n d = true))) ∧ ((True) ∧ (True)))))))))) ∧ (∀ (x2 : Nat), (((x2 ≤ l.length) ∧ ((checkS l = (0 : Int)) ∧ (scaleOk n d = true))) → (((decide ((↑x2 : Int) < (↑l.length : Int)) = true) → (Ob ((((0 : Int) ≤ (↑x2 : Int)) ∧ ((↑x2 : Int) < (↑l.length : Int)))) ∧ (Ob (((in64 n) ∧ (in64 d))) ∧ ((((!decide (scaleE (elCell l x2 (0 : Nat)).toInt n d = (0 : Int))) = true) → ((scS n d l = []) ∧ ((scaleE (elCell l x2 (0 : Nat)).toInt n d = scE n d l) ∧ (True)))) ∧ (((!decide (scaleE (elCell l x2 (0 : Nat)).toInt n d = (0 : Int))) = false) → (((decide ((0 : Int) < (↑(scN n d l x2).length : Int)) = true) → (Ob ((((0 : Int) ≤ IntKind.i64.wrap ((↑(scN n d l x2).length : Int) - (1 : Int))) ∧ (IntKind.i64.wrap ((↑(scN n d l x2).length : Int) - (1 : Int)) < (↑(scN n d l x2).length : Int)))) ∧ (Ob (((IntKind.i64.wrap ((↑(scN n d l x2).length : Int) - (1 : Int))).toNat < (scN n d l x2).length)) ∧ (Ob (((IntKind.i64.wrap ((↑(scN n d l x2).length : Int) - (1 : Int))).toNat < (scN n d l x2).length)) ∧ (((decide ((elCell (scN n d l x2) (IntKind.i64.wrap ((↑(scN n d l x2).length : Int) - (1 : Int))).toNat (0 : Nat)).toInt = scaleV (elCell l x2 (0 : Nat)).toInt n d) = true) → (Ob ((((0 : Int) ≤ IntKind.i64.wrap ((↑(scN n d l x2).length : Int) - (1 : Int))) ∧ (IntKind.i64.wrap ((↑(scN n d l x2).length : Int) - (1 : Int)) ≤ (↑(scN n d l x2).length : Int)))) ∧ (Ob (((((List.take (IntKind.i64.wrap ((↑(scN n d l x2).length : Int) - (1 : Int))).toNat (scN n d l x2)).length + (1 : Nat)) * (24 : Nat) ≤ (1099511627776 : Nat)) ∧ ((List.take (IntKind.i64.wrap ((↑(scN n d l x2).length : Int) - (1 : Int))).toNat (scN n d l x2)).length + (1 : Nat) ≤ (1099511627776 : Nat)))) ∧ (∃ (x3 : Nat), ((n = n) ∧ ((d = d) ∧ ((l = l) ∧ (((↑l.length : Int) = (↑l.length : Int)) ∧ ((IntKind.i64.wrap ((↑x2 : Int) + (1 : Int)) = (↑x3 : Int)) ∧ ((List.take (IntKind.i64.wrap ((↑(scN n d l x2).length : Int) - (1 : Int))).toNat (scN n d l x2) ++ [SV.agg [SV.int IntKind.i64 (scaleV (elCell l x2 (0 : Nat)).toInt n d), SV.int IntKind.i64 (elCell l x2 (1 : Nat)).toInt, SV.int IntKind.i64 (elCell l x2 (2 : Nat)).toInt]] = scN n d l x3) ∧ (((x3 ≤ l.length) ∧ ((checkS l = (0 : Int)) ∧ (scaleOk n d = true))) ∧ ((l.length - x3 < l.length - x2) ∧ (True))))))))))))) ∧ ((decide ((elCell (scN n d l x2) (IntKind.i64.wrap ((↑(scN n d l x2).length : Int) - (1 : Int))).toNat (0 : Nat)).toInt = scaleV (elCell l x2 (0 : Nat)).toInt n d) = false) → (Ob (((((scN n d l x2).length + (1 : Nat)) * (24 : Nat) ≤ (1099511627776 : Nat)) ∧ ((scN n d l x2).length + (1 : Nat) ≤ (1099511627776 : Nat)))) ∧ (∃ (x4 : Nat), ((n = n) ∧ ((d = d) ∧ ((l = l) ∧ (((↑l.length : Int) = (↑l.length : Int)) ∧ ((IntKind.i64.wrap ((↑x2 : Int) + (1 : Int)) = (↑x4 : Int)) ∧ ((scN n d l x2 ++ [SV.agg [SV.int IntKind.i64 (scaleV (elCell l x2 (0 : Nat)).toInt n d), SV.int IntKind.i64 (elCell l x2 (1 : Nat)).toInt, SV.int IntKind.i64 (elCell l x2 (2 : Nat)).toInt]] = scN n d l x4) ∧ (((x4 ≤ l.length) ∧ ((checkS l = (0 : Int)) ∧ (scaleOk n d = true))) ∧ ((l.length - x4 < l.length - x2) ∧ (True))))))))))))))))) ∧ ((decide ((0 : Int) < (↑(scN n d l x2).length : Int)) = false) → (Ob (((((scN n d l x2).length + (1 : Nat)) * (24 : Nat) ≤ (1099511627776 : Nat)) ∧ ((scN n d l x2).length + (1 : Nat) ≤ (1099511627776 : Nat)))) ∧ (∃ (x5 : Nat), ((n = n) ∧ ((d = d) ∧ ((l = l) ∧ (((↑l.length : Int) = (↑l.length : Int)) ∧ ((IntKind.i64.wrap ((↑x2 : Int) + (1 : Int)) = (↑x5 : Int)) ∧ ((scN n d l x2 ++ [SV.agg [SV.int IntKind.i64 (scaleV (elCell l x2 (0 : Nat)).toInt n d), SV.int IntKind.i64 (elCell l x2 (1 : Nat)).toInt, SV.int IntKind.i64 (elCell l x2 (2 : Nat)).toInt]] = scN n d l x5) ∧ (((x5 ≤ l.length) ∧ ((checkS l = (0 : Int)) ∧ (scaleOk n d = true))) ∧ ((l.length - x5 < l.length - x2) ∧ (True)))))))))))))))))) ∧ ((decide ((↑x2 : Int) < (↑l.length : Int)) = false) → ((scN n d l x2 = scS n d l) ∧ (((0 : Int) = scE n d l) ∧ (True))))))))))))))))))) := by kernel_rfl
theorem rateF {r : Int} (h : ¬ (0 ≤ r ∧ r ≤ 10000)) : rateB r = false := by
  cases hr : rateB r with
  | false => rfl
  | true => exact absurd (rateB_iff.1 hr) h
/-- The document's sum is the program's, and what is above at the rate ahead. -/
theorem rSum_b {x : Int} {l : List SV} (h : checkS l = 0) (k : Nat) : ∀ n, n ≤ l.length → rSum k x l n = bSum k x l n + abvB x l n * prevR k l n
  | 0, _ => by simp [rSum, bSum, prevR]
  | n + 1, hn => by
    obtain ⟨w1, w2, w3⟩ := wid_pos (x := x) h (i := n) (by omega)
    simp only [rSum, bSum, rSum_b h k n (by omega), prevR, w1, Int.sub_mul, Int.mul_sub]
    omega
theorem rSum_end {x : Int} {l : List SV} (h : checkS l = 0) (k : Nat) : rSum k x l l.length = bSum k x l l.length := by
  rw [rSum_b h k _ (Nat.le_refl _)]
  have : abvB x l l.length = 0 := by unfold abvB; rw [if_neg (by omega)]
  rw [this, Int.zero_mul, Int.add_zero]
theorem prevR_in {l : List SV} (h : checkS l = 0) {k : Nat} (hk : k = 1 ∨ k = 2) {i : Nat} (hi : i ≤ l.length) : 0 ≤ prevR k l i ∧ prevR k l i ≤ 10000 := by
  cases i with
  | zero => exact ⟨by show (0 : Int) ≤ 0; omega, by show (0 : Int) ≤ 10000; omega⟩
  | succ i => exact rate_in h (by omega) hk
theorem rSum_in {x : Int} {l : List SV} (h : checkS l = 0) {k : Nat} (hk : k = 1 ∨ k = 2) (hx : x ≤ 100000000000) {n : Nat} (hn : n ≤ l.length) : 0 ≤ rSum k x l n ∧ rSum k x l n ≤ 1000000000000000 := by
  have h1 := bSum_in h hk hx n hn
  have h2 := pos_in (x := x) h hx n
  have h3 := prevR_in h hk hn
  have m1 := Int.mul_nonneg h2.1 h3.1
  have m2 := Int.mul_le_mul_of_nonneg_left h3.2 h2.1
  rw [rSum_b h k n hn]
  omega
theorem kOf_in (b : Bool) : kOf b = 1 ∨ kOf b = 2 := by cases b <;> simp [kOf]

theorem joinN_len (l : List SV) (i : Nat) : (joinN l i).length ≤ i := by
  induction i with
  | zero => simp [joinN]
  | succ i ih =>
    simp only [joinN]
    split
    · omega
    · simp; omega
theorem rowEq_iff {a b : List SV} {i : Nat} : rowEq a b i = true ↔ bd a i 0 = bd b i 0 ∧ bd a i 1 = bd b i 1 ∧ bd a i 2 = bd b i 2 := by simp [rowEq, and_assoc]

theorem rbcheck_known : Known Try.prog 10 rbcheckC := by
  refine known1 (nt := 90) (An := fun l => (rchk_an l)) (labs := []) (lit := false) (em := em_rbcheck) sh_rbcheck_le (by kernel_rfl) mixedT tyT_ok .nil Try.func10 (by kernel_rfl) (fun a => by kernel_rfl) (fun a => by rfl) (fun l ha => ?_)
  refine ⟨_, vc_rbcheck l, ?_⟩
  simp only [Int.reduceLE, Int.reduceLT, Int.reduceEq, Int.reduceNe, Nat.reduceLeDiff, Nat.reduceEqDiff, beq_eq_false_iff_ne, beq_iff_eq, decide_eq_decide, ne_eq, eq_self, true_and, and_true, and_self, and_false, false_and, Bool.not_true, Bool.not_false, Bool.false_eq_true, Bool.true_eq_false, false_implies, true_implies, implies_true, imp_false, not_true, not_false_eq_true, decide_eq_true_eq, decide_eq_false_iff_not, Bool.not_eq_true', Bool.not_eq_false', Bool.and_eq_true, Classical.not_not, decide_true, decide_false, Bool.and_true, Bool.true_and, if_true, if_false, Ob_iff]
  simp only [bd_eq]
  refine ⟨fun h => ?_, fun h => ⟨fun h2 => ?_, fun h2 => ⟨⟨0, rfl, by omega, by omega, by omega, rfl⟩, fun i ⟨i1, i2, i3, i4⟩ => ⟨fun h3 => ?_, fun h3 => ?_⟩⟩⟩⟩
  · unfold checkS; rw [if_pos (by omega)]
  · unfold checkS; rw [if_pos (by omega)]
  · obtain ⟨c1, c2⟩ := check_at (i := i) (by omega) i3 i4
    simp only [wrapI (n := (i : Int) - 1) (by omega), wrapI (n := (i : Int) + 1) (by omega), show ((i : Int) - 1).toNat = i - 1 by omega]
    have nx : bErrs l (i + 1) = 0 → ∃ x3 : Nat, (i : Int) + 1 = (x3 : Int) ∧ (x3 ≤ l.length ∧ 1 ≤ l.length ∧ l.length ≤ 8 ∧ bErrs l x3 = 0) ∧ l.length - x3 < l.length - i := fun h => ⟨i + 1, rfl, ⟨by omega, by omega, by omega, h⟩, by omega⟩
    have c3 : ¬ (bd l i 0 < 0 ∨ 100000000000 < bd l i 0 ∨ (i = 0 ∧ bd l i 0 ≠ 0)) → ¬ (0 < i ∧ bd l i 0 ≤ bd l (i - 1) 0) → (0 ≤ bd l i 1 ∧ bd l i 1 ≤ 10000) → (0 ≤ bd l i 2 ∧ bd l i 2 ≤ 10000) → bErrs l (i + 1) = 0 := fun a b c d => by
      by_cases hl : i + 1 < l.length
      · exact (((c2 a).2 b).2 (rateB_iff.2 c) (rateB_iff.2 d)).1 hl
      · have := (((c2 a).2 b).2 (rateB_iff.2 c) (rateB_iff.2 d)).2 hl
        have he : i + 1 = l.length := by omega
        rw [he]
        unfold checkS at this
        rw [if_neg (by omega)] at this
        exact this
    refine ⟨by omega, ?_⟩
    repeat' first | exact trivial | with_reducible rfl | apply And.intro | apply Ob.mk | intro _
    all_goals first
      | omega
      | exact (c1 (by omega)).symm
      | exact ((c2 (by omega)).1 (by omega)).symm
      | exact ((c2 (by omega)).2 (by omega)).1 (.inl (rateF (by omega))) |>.symm
      | exact ((c2 (by omega)).2 (by omega)).1 (.inr (rateF (by omega))) |>.symm
      | exact nx (c3 (by omega) (by omega) (by omega) (by omega))
  · have : i = l.length := by omega
    subst this
    unfold checkS
    rw [if_neg (by omega)]; exact i4.symm

theorem rbexact_known : Known Try.prog 15 rbexactC := by
  refine known1 (nt := 50) (An := fun (x, l, b) => (rex_an x l b)) (labs := []) (lit := false) (em := em_rbexact) sh_rbexact_le (by kernel_rfl) mixedT tyT_ok .nil Try.func15 (by kernel_rfl) (fun a => by obtain ⟨x, l, b⟩ := a; kernel_rfl) (fun a => by obtain ⟨x, l, b⟩ := a; rfl) (fun a ha => ?_)
  obtain ⟨x, l, b⟩ := a
  replace ha : checkS l = 0 ∧ rightB x = true := ha.out
  refine ⟨_, vc_rbexact x l b, ?_⟩
  obtain ⟨hc, hr⟩ := ha
  have hx := rightB_iff.1 hr
  have hl := (check_zero hc).2.1
  simp only [Int.reduceLE, Int.reduceLT, Int.reduceEq, Int.reduceNe, Nat.reduceLeDiff, Nat.reduceEqDiff, beq_eq_false_iff_ne, beq_iff_eq, decide_eq_decide, ne_eq, eq_self, true_and, and_true, and_self, and_false, false_and, Bool.not_true, Bool.not_false, Bool.false_eq_true, Bool.true_eq_false, false_implies, true_implies, implies_true, imp_false, not_true, not_false_eq_true, decide_eq_true_eq, decide_eq_false_iff_not, Bool.not_eq_true', Bool.not_eq_false', Bool.and_eq_true, Classical.not_not, decide_true, decide_false, Bool.and_true, Bool.true_and, if_true, if_false, Ob_iff]
  simp only [bd_eq]
  refine ⟨⟨0, rfl, rfl, rfl, by omega, hc, hr⟩, fun i ⟨i1, i2, i3⟩ => ⟨fun h => ?_, fun h => ?_⟩⟩
  · have hi : i < l.length := by omega
    obtain ⟨z1, z2, _⟩ := bErr_zero ((check_zero hc).2.2 i hi)
    have rr := fun k hk => rate_in hc hi (k := k) hk
    have pr := prevR_in hc (kOf_in b) (i := i) (by omega)
    have sn := rSum_in hc (kOf_in b) (x := x) (by omega) (n := i + 1) (by omega)
    have r1 := rr 1 (.inl rfl)
    have r2 := rr 2 (.inr rfl)
    have key : ∀ y : Int, y = bd l i (kOf b) → (bd l i 0 < x → IntKind.i64.wrap (rSum (kOf b) x l i + IntKind.i64.wrap (IntKind.i64.wrap (x - bd l i 0) * IntKind.i64.wrap (y - prevR (kOf b) l i))) = rSum (kOf b) x l (i + 1)) ∧ (¬ bd l i 0 < x → rSum (kOf b) x l i = rSum (kOf b) x l (i + 1)) := fun y hy => by
      have ry := rr (kOf b) (kOf_in b)
      rw [← hy] at ry
      have e : rSum (kOf b) x l (i + 1) = rSum (kOf b) x l i + abvB x l i * (y - prevR (kOf b) l i) := by rw [hy]; rfl
      refine ⟨fun h => ?_, fun h => ?_⟩
      · have ab : abvB x l i = x - bd l i 0 := by unfold abvB; rw [if_pos hi]; unfold maxV; split <;> omega
        rw [wrapI (n := x - bd l i 0) (by omega), wrapI (n := y - prevR (kOf b) l i) (by omega)]
        rw [ab] at e
        have m1 := Int.mul_le_mul_of_nonneg_left (a := y - prevR (kOf b) l i) (b := 10000) (c := x - bd l i 0) (by omega) (by omega)
        have m2 := Int.mul_le_mul_of_nonneg_left (a := -10000) (b := y - prevR (kOf b) l i) (c := x - bd l i 0) (by omega) (by omega)
        rw [wrapI (n := (x - bd l i 0) * (y - prevR (kOf b) l i)) (by omega), ← e, wrapI (by omega)]
      · have ab : abvB x l i = 0 := by unfold abvB; rw [if_pos hi]; unfold maxV; split <;> omega
        rw [e, ab, Int.zero_mul, Int.add_zero]
    simp only [wrapI (n := (i : Int) + 1) (by omega)]
    refine ⟨by omega, fun hb => ?_, fun hb => ?_⟩
    · have hk : bd l i 2 = bd l i (kOf b) := by rw [hb]; rfl
      obtain ⟨k1, k2⟩ := key _ hk
      exact ⟨by omega, by omega, fun h => ⟨by omega, i + 1, k1 h, hk, rfl, ⟨by omega, hc, hr⟩, by omega⟩, fun h => ⟨i + 1, k2 h, hk, rfl, ⟨by omega, hc, hr⟩, by omega⟩⟩
    · have hk : bd l i 1 = bd l i (kOf b) := by rw [hb]; rfl
      obtain ⟨k1, k2⟩ := key _ hk
      exact ⟨by omega, fun h => ⟨by omega, i + 1, k1 h, hk, rfl, ⟨by omega, hc, hr⟩, by omega⟩, fun h => ⟨i + 1, k2 h, hk, rfl, ⟨by omega, hc, hr⟩, by omega⟩⟩
  · rw [show i = l.length by omega]

theorem rbpart_known : Known Try.prog 20 rbpartC := by
  refine known1 (nt := 12) (An := fun (x, n, d) => noAnn) (labs := []) (lit := false) (em := em_rbpart) sh_rbpart_le (by kernel_rfl) mixedT tyT_ok .nil Try.func20 (by kernel_rfl) (fun a => by obtain ⟨x, n, d⟩ := a; kernel_rfl) (fun a => by obtain ⟨x, n, d⟩ := a; rfl) (fun a ha => ?_)
  obtain ⟨x, n, d⟩ := a
  replace ha : 0 ≤ x ∧ x ≤ 100000000000 ∧ 0 ≤ n ∧ n ≤ d ∧ 1 ≤ d ∧ d ≤ 1048576 := ha.out
  refine ⟨_, vc_rbpart x n d, ?_⟩
  obtain ⟨h1, h2, h3, h4, h5, h6⟩ := ha
  simp only [Int.reduceLE, Int.reduceLT, Int.reduceEq, Int.reduceNe, Nat.reduceLeDiff, Nat.reduceEqDiff, beq_eq_false_iff_ne, beq_iff_eq, decide_eq_decide, ne_eq, eq_self, true_and, and_true, and_self, and_false, false_and, Bool.not_true, Bool.not_false, Bool.false_eq_true, Bool.true_eq_false, false_implies, true_implies, implies_true, imp_false, not_true, not_false_eq_true, decide_eq_true_eq, decide_eq_false_iff_not, Bool.not_eq_true', Bool.not_eq_false', Bool.and_eq_true, Classical.not_not, decide_true, decide_false, Bool.and_true, Bool.true_and, if_true, if_false, Ob_iff]
  have m1 := Int.mul_nonneg h1 h3
  have m2 := Int.mul_le_mul_of_nonneg_right (a := x) (b := 100000000000) (c := n) h2 h3
  rw [wrapI (n := x * n) (by omega), Int.tdiv_eq_ediv_of_nonneg m1, wrapI (ediv_in ⟨by omega, by omega⟩ (by omega))]
  exact ⟨by omega, rfl⟩

theorem bfind_known : Known Try.prog 17 bfindC := by
  refine known1 (nt := 24) (An := fun (x, l) => (find_an x l)) (labs := []) (lit := false) (em := em_bfind) sh_bfind_le (by kernel_rfl) mixedT tyT_ok .nil Try.func17 (by kernel_rfl) (fun a => by obtain ⟨x, l⟩ := a; kernel_rfl) (fun a => by obtain ⟨x, l⟩ := a; rfl) (fun a ha => ?_)
  obtain ⟨x, l⟩ := a
  replace ha : 1 ≤ l.length ∧ l.length ≤ 1000 := ha.out
  refine ⟨_, vc_bfind x l, ?_⟩
  obtain ⟨h1, h2⟩ := ha
  simp only [Int.reduceLE, Int.reduceLT, Int.reduceEq, Int.reduceNe, Nat.reduceLeDiff, Nat.reduceEqDiff, beq_eq_false_iff_ne, beq_iff_eq, decide_eq_decide, ne_eq, eq_self, true_and, and_true, and_self, and_false, false_and, Bool.not_true, Bool.not_false, Bool.false_eq_true, Bool.true_eq_false, false_implies, true_implies, implies_true, imp_false, not_true, not_false_eq_true, decide_eq_true_eq, decide_eq_false_iff_not, Bool.not_eq_true', Bool.not_eq_false', Bool.and_eq_true, Classical.not_not, decide_true, decide_false, Bool.and_true, Bool.true_and, if_true, if_false, Ob_iff]
  simp only [bd_eq]
  refine ⟨⟨0, rfl, by omega, h2, rfl⟩, fun i ⟨i1, i2, i3⟩ => ?_⟩
  simp only [wrapI (n := (i : Int) + 1) (by omega), show ((i : Int) + 1).toNat = i + 1 by omega]
  refine ⟨fun h => ⟨by omega, fun h3 => ⟨i + 1, rfl, ⟨by omega, i2, ?_⟩, by omega⟩, fun h3 => ?_⟩, fun h => ?_⟩
  · obtain ⟨f, hf⟩ : ∃ f, l.length - i = f + 1 := ⟨l.length - i - 1, by omega⟩
    rw [hf] at i3
    simp only [findN] at i3
    rw [if_pos ⟨by omega, h3⟩] at i3
    rw [show l.length - (i + 1) = f by omega]; exact i3
  · obtain ⟨f, hf⟩ : ∃ f, l.length - i = f + 1 := ⟨l.length - i - 1, by omega⟩
    rw [hf] at i3
    simp only [findN] at i3
    rw [if_neg (fun hc => h3 hc.2)] at i3
    rw [← i3]
  · rcases Nat.eq_zero_or_pos (l.length - i) with h0 | h0
    · rw [h0] at i3; simp only [findN] at i3; rw [← i3]
    · obtain ⟨f, hf⟩ : ∃ f, l.length - i = f + 1 := ⟨l.length - i - 1, by omega⟩
      rw [hf] at i3
      simp only [findN] at i3
      rw [if_neg (fun hc => by omega)] at i3
      rw [← i3]

theorem btop_known : Known Try.prog 19 btopC := by
  refine known1 (nt := 18) (An := fun l => (top_an l)) (labs := []) (lit := false) (em := em_btop) sh_btop_le (by kernel_rfl) mixedT tyT_ok .nil Try.func19 (by kernel_rfl) (fun a => by kernel_rfl) (fun a => by rfl) (fun l ha => ?_)
  replace ha : l.length ≤ 1000 := ha.out
  refine ⟨_, vc_btop l, ?_⟩
  simp only [Int.reduceLE, Int.reduceLT, Int.reduceEq, Int.reduceNe, Nat.reduceLeDiff, Nat.reduceEqDiff, beq_eq_false_iff_ne, beq_iff_eq, decide_eq_decide, ne_eq, eq_self, true_and, and_true, and_self, and_false, false_and, Bool.not_true, Bool.not_false, Bool.false_eq_true, Bool.true_eq_false, false_implies, true_implies, implies_true, imp_false, not_true, not_false_eq_true, decide_eq_true_eq, decide_eq_false_iff_not, Bool.not_eq_true', Bool.not_eq_false', Bool.and_eq_true, Classical.not_not, decide_true, decide_false, Bool.and_true, Bool.true_and, if_true, if_false, Ob_iff]
  simp only [bd_eq]
  refine ⟨⟨0, rfl, rfl, by omega, ha⟩, fun i ⟨i1, i2⟩ => ⟨fun h => ⟨by omega, i + 1, rfl, ?_, ⟨by omega, i2⟩, by omega⟩, fun h => ?_⟩⟩
  · rw [wrapI (by omega)]; rfl
  · rw [show i = l.length by omega]; rfl

theorem bcorn_known : Known Try.prog 23 bcornC := by
  refine known1 (nt := 22) (An := fun l => (corn_an l)) (labs := []) (lit := false) (em := em_bcorn) sh_bcorn_le (by kernel_rfl) mixedT tyT_ok .nil Try.func23 (by kernel_rfl) (fun a => by kernel_rfl) (fun a => by rfl) (fun l ha => ?_)
  replace ha : l.length ≤ 1000 := ha.out
  refine ⟨_, vc_bcorn l, ?_⟩
  simp only [Int.reduceLE, Int.reduceLT, Int.reduceEq, Int.reduceNe, Nat.reduceLeDiff, Nat.reduceEqDiff, beq_eq_false_iff_ne, beq_iff_eq, decide_eq_decide, ne_eq, eq_self, true_and, and_true, and_self, and_false, false_and, Bool.not_true, Bool.not_false, Bool.false_eq_true, Bool.true_eq_false, false_implies, true_implies, implies_true, imp_false, not_true, not_false_eq_true, decide_eq_true_eq, decide_eq_false_iff_not, Bool.not_eq_true', Bool.not_eq_false', Bool.and_eq_true, Classical.not_not, decide_true, decide_false, Bool.and_true, Bool.true_and, if_true, if_false, Ob_iff]
  simp only [bd_eq]
  have len : ∀ i, (cornN l i).length ≤ i := fun i => by
    induction i with
    | zero => simp [cornN]
    | succ i ih => simp only [cornN]; split <;> simp <;> omega
  refine ⟨⟨0, rfl, rfl, by omega, ha⟩, fun i ⟨i1, i2⟩ => ?_⟩
  have li := len i
  simp only [wrapI (n := (i : Int) + 1) (by omega)]
  refine ⟨fun h => ⟨by omega, fun h2 => ⟨⟨by omega, by omega⟩, i + 1, rfl, ?_, ⟨by omega, i2⟩, by omega⟩, fun h2 => ⟨i + 1, rfl, ?_, ⟨by omega, i2⟩, by omega⟩⟩, fun h => ?_⟩
  · simp only [cornN]; rw [if_neg (by omega)]
  · have : i = 0 := by omega
    subst this
    rfl
  · rw [show i = l.length by omega]; rfl

theorem bjoin_known : Known Try.prog 21 bjoinC := by
  refine known1 (nt := 45) (An := fun l => (join_an l)) (labs := []) (lit := false) (em := em_bjoin) sh_bjoin_le (by kernel_rfl) mixedT tyT_ok .nil Try.func21 (by kernel_rfl) (fun a => by kernel_rfl) (fun a => by rfl) (fun l ha => ?_)
  replace ha : l.length ≤ 1000 := ha.out
  refine ⟨_, vc_bjoin l, ?_⟩
  have len := joinN_len l
  simp only [Int.reduceLE, Int.reduceLT, Int.reduceEq, Int.reduceNe, Nat.reduceLeDiff, Nat.reduceEqDiff, beq_eq_false_iff_ne, beq_iff_eq, decide_eq_decide, ne_eq, eq_self, true_and, and_true, and_self, and_false, false_and, Bool.not_true, Bool.not_false, Bool.false_eq_true, Bool.true_eq_false, false_implies, true_implies, implies_true, imp_false, not_true, not_false_eq_true, decide_eq_true_eq, decide_eq_false_iff_not, Bool.not_eq_true', Bool.not_eq_false', Bool.and_eq_true, Classical.not_not, decide_true, decide_false, Bool.and_true, Bool.true_and, if_true, if_false, Ob_iff]
  simp only [bd_eq]
  refine ⟨⟨0, rfl, rfl, by omega, ha⟩, fun i ⟨i1, i2⟩ => ?_⟩
  have li := len i
  simp only [wrapI (n := (i : Int) + 1) (by omega), wrapI (n := ((joinN l i).length : Int) - 1) (by omega), show (((joinN l i).length : Int) - 1).toNat = (joinN l i).length - 1 by omega]
  have nx : ∀ o : List SV, o = joinN l (i + 1) → i < l.length → ∃ x3 : Nat, (i : Int) + 1 = (x3 : Int) ∧ o = joinN l x3 ∧ (x3 ≤ l.length ∧ l.length ≤ 1000) ∧ l.length - x3 < l.length - i := fun o ho h => ⟨i + 1, rfl, ho, ⟨by omega, i2⟩, by omega⟩
  have app : sameR (joinN l i) l i = false → joinN l i ++ [.agg [.int .i64 (bd l i 0), .int .i64 (bd l i 1), .int .i64 (bd l i 2)]] = joinN l (i + 1) := fun h => by
    simp only [joinN, h]; rfl
  refine ⟨fun h => ⟨by omega, fun h2 => ⟨by omega, by omega, by omega, fun h3 => ⟨by omega, by omega, by omega, fun h4 => ?_, fun h4 => ⟨⟨by omega, by omega⟩, ?_⟩⟩, fun h3 => ⟨⟨by omega, by omega⟩, ?_⟩⟩, fun h2 => ⟨⟨by omega, by omega⟩, ?_⟩⟩, fun h => ?_⟩
  · refine nx _ ?_ (by omega)
    have : sameR (joinN l i) l i = true := by simp [sameR, h3, h4]; omega
    simp only [joinN, this, if_true]
  · exact nx _ (app (by simp [sameR, h4])) (by omega)
  · exact nx _ (app (by simp [sameR, h3])) (by omega)
  · exact nx _ (app (by simp [sameR]; omega)) (by omega)
  · rw [show i = l.length by omega]; rfl

theorem beql_known : Known Try.prog 36 beqlC := by
  refine known1 (nt := 26) (An := fun (a, b) => (eql_an a b)) (labs := []) (lit := false) (em := em_beql) sh_beql_le (by kernel_rfl) mixedT tyT_ok .nil Try.func36 (by kernel_rfl) (fun a => by obtain ⟨a, b⟩ := a; kernel_rfl) (fun a => by obtain ⟨a, b⟩ := a; rfl) (fun a ha => ?_)
  obtain ⟨a, b⟩ := a
  replace ha : a.length ≤ 1000 := ha.out
  refine ⟨_, vc_beql a b, ?_⟩
  have nxt : ∀ i, (List.range (i + 1)).all (rowEq a b) = ((List.range i).all (rowEq a b) && rowEq a b i) := fun i => by rw [List.range_succ, List.all_append]; simp
  have e : ∀ i, (decide ((elCell a i 0).toInt = (elCell b i 0).toInt) && (decide ((elCell a i 1).toInt = (elCell b i 1).toInt) && decide ((elCell a i 2).toInt = (elCell b i 2).toInt))) = rowEq a b i := fun i => by rw [rowEq, Bool.and_assoc]; rfl
  simp only [e]
  simp only [eq_self, true_and, and_true, and_self, Bool.not_true, Bool.not_false, Bool.false_eq_true, Bool.true_eq_false, false_implies, true_implies, implies_true, imp_false, not_true, not_false_eq_true, decide_eq_true_eq, decide_eq_false_iff_not, Bool.not_eq_true', Bool.not_eq_false', Bool.and_eq_true, Classical.not_not, decide_true, decide_false, Bool.and_true, Bool.true_and, if_true, if_false, Ob_iff]
  refine ⟨fun h => ?_, fun h => ⟨⟨0, rfl, by omega, by omega, ha, rfl⟩, fun i ⟨i1, i2, i3, i4⟩ => ⟨fun h2 => ⟨by omega, by omega, fun h3 => ?_, fun h3 => ⟨i + 1, by rw [wrapI (by omega)]; rfl, ⟨by omega, i2, i3, by rw [nxt, i4, h3]; rfl⟩, by omega⟩⟩, fun h2 => ?_⟩⟩⟩
  · unfold rowsEq
    rw [decide_eq_false (by omega)]; rfl
  · unfold rowsEq
    rw [all_of (rowEq a b) (List.range a.length) 0 i (by simp; omega) (by simp [List.getD_eq_getElem?_getD, show i < a.length by omega, h3]), Bool.and_false]
  · unfold rowsEq
    rw [decide_eq_true i2, show a.length = i by omega, i4]; rfl

theorem bsame_known : Known Try.prog 22 bsameC := by
  refine known1 (nt := 10) (An := fun (a, b) => noAnn) (labs := []) (lit := false) (em := em_bsame) sh_bsame_le (by kernel_rfl) mixedT tyT_ok (.cons bjoin_known (.cons beql_known .nil)) Try.func22 (by kernel_rfl) (fun a => by obtain ⟨a, b⟩ := a; kernel_rfl) (fun a => by obtain ⟨a, b⟩ := a; rfl) (fun a ha => ?_)
  obtain ⟨a, b⟩ := a
  replace ha : a.length ≤ 1000 ∧ b.length ≤ 1000 := ha.out
  refine ⟨_, vc_bsame a b, ?_⟩
  obtain ⟨h1, h2⟩ := ha
  have := joinN_len a a.length
  exact ⟨⟨h1⟩, ⟨h2⟩, ⟨by show (joinN a a.length).length ≤ 1000; omega⟩, rfl, trivial⟩

theorem scN_len (n d : Int) (l : List SV) (i : Nat) : (scN n d l i).length ≤ i ∧ (0 < i → 0 < (scN n d l i).length) := by
  induction i with
  | zero => simp [scN]
  | succ i ih =>
    simp only [scN]
    split
    · simp; omega
    · simp; omega

theorem bscale_known : Known Try.prog 14 bscaleC := by
  refine known1 (nt := 78) (An := fun (n, d, l) => (sc_an n d l)) (labs := []) (lit := false) (em := em_bscale) sh_bscale_le (by kernel_rfl) mixedT tyT_ok (.cons bcheck_known (.cons scale_known .nil)) Try.func14 (by kernel_rfl) (fun a => by obtain ⟨n, d, l⟩ := a; kernel_rfl) (fun a => by obtain ⟨n, d, l⟩ := a; rfl) (fun a ha => ?_)
  obtain ⟨n, d, l⟩ := a
  replace ha : in64 n ∧ in64 d := ha.out
  refine ⟨_, vc_bscale n d l, ?_⟩
  obtain ⟨hn, hd⟩ := ha
  have len := scN_len n d l
  have bad : scE n d l ≠ 0 → scS n d l = [] := fun h => by unfold scS; rw [if_neg h]
  simp only [Int.reduceLE, Int.reduceLT, Int.reduceEq, Int.reduceNe, Nat.reduceLeDiff, Nat.reduceEqDiff, beq_eq_false_iff_ne, beq_iff_eq, decide_eq_decide, ne_eq, eq_self, true_and, and_true, and_self, and_false, false_and, Bool.not_true, Bool.not_false, Bool.false_eq_true, Bool.true_eq_false, false_implies, true_implies, implies_true, imp_false, not_true, not_false_eq_true, decide_eq_true_eq, decide_eq_false_iff_not, Bool.not_eq_true', Bool.not_eq_false', Bool.and_eq_true, Classical.not_not, decide_true, decide_false, Bool.and_true, Bool.true_and, if_true, if_false, Ob_iff]
  simp only [bd_eq]
  have one : checkS l = 0 → scaleOk n d = false → scS n d l = [] ∧ 1 = scE n d l := fun h1 h2 => by
    have : scE n d l = 1 := by unfold scE; rw [if_pos h1, h2]; rfl
    exact ⟨bad (by omega), this.symm⟩
  refine ⟨fun h => ?_, fun hc => ⟨fun h => one hc (by simp [scaleOk]; omega), fun q1 => ⟨fun h => one hc (by simp [scaleOk]; omega), fun q2 => ⟨fun h => one hc (by simp [scaleOk]; omega), fun q3 => ⟨fun h => one hc (by simp [scaleOk]; omega), fun q4 => ⟨⟨0, rfl, rfl, by omega, hc, by simp [scaleOk]; omega⟩, fun i ⟨i1, i2, i3⟩ => ⟨fun h => ?_, fun h => ?_⟩⟩⟩⟩⟩⟩⟩
  · have : scE n d l = checkS l := by unfold scE; rw [if_neg h]
    exact ⟨bad (by omega), this.symm⟩
  · have hi : i < l.length := by omega
    have hl := (check_zero hc).2.1
    obtain ⟨z1, z2, _⟩ := bErr_zero ((check_zero hc).2.2 i hi)
    have li := len i
    have m1 := Int.mul_nonneg z1 (show 0 ≤ n by omega)
    have m2 : bd l i 0 * n ≤ bd l i 0 * d := Int.mul_le_mul_of_nonneg_left (by omega) z1
    have m3 : bd l i 0 * n / d ≤ bd l i 0 := by
      rw [Int.ediv_le_iff_le_mul (by omega)]
      have := Int.le_trans m2 (Int.le_add_of_nonneg_right (a := bd l i 0 * d) (b := d - 1) (by omega))
      omega
    have m4 : 0 ≤ bd l i 0 * n / d := Int.ediv_nonneg m1 (by omega)
    have sE : scaleE (bd l i 0) n d = 0 := by
      have a1 : rightB (bd l i 0) = true := rightB_iff.2 (by omega)
      have a2 : scaleB n d = true := by simp [scaleB]; omega
      have a3 : rightB (bd l i 0 * n / d) = true := rightB_iff.2 (by omega)
      simp [scaleE, a1, a2, a3]
    have sV : scaleV (bd l i 0) n d = partS (bd l i 0) n d := by simp [scaleV, sE, partS]
    have nx : ∀ o : List SV, o = scN n d l (i + 1) → ∃ x3 : Nat, IntKind.i64.wrap ((i : Int) + 1) = (x3 : Int) ∧ o = scN n d l x3 ∧ (x3 ≤ l.length ∧ checkS l = 0 ∧ scaleOk n d = true) ∧ l.length - x3 < l.length - i := fun o ho =>
      ⟨i + 1, by rw [wrapI (by omega)]; rfl, ho, ⟨by omega, hc, i3⟩, by omega⟩
    simp only [sE, sV, wrapI (n := ((scN n d l i).length : Int) - 1) (by omega), show (((scN n d l i).length : Int) - 1).toNat = (scN n d l i).length - 1 by omega, List.length_take]
    simp only [Int.reduceLE, Int.reduceLT, Int.reduceEq, Int.reduceNe, Nat.reduceLeDiff, Nat.reduceEqDiff, beq_eq_false_iff_ne, beq_iff_eq, decide_eq_decide, ne_eq, eq_self, true_and, and_true, and_self, and_false, false_and, Bool.not_true, Bool.not_false, Bool.false_eq_true, Bool.true_eq_false, false_implies, true_implies, implies_true, imp_false, not_true, not_false_eq_true, decide_eq_true_eq, decide_eq_false_iff_not, Bool.not_eq_true', Bool.not_eq_false', Bool.and_eq_true, Classical.not_not, decide_true, decide_false, Bool.and_true, Bool.true_and, if_true, if_false, Ob_iff]
    refine ⟨by omega, ⟨hn, hd⟩, fun h2 => ⟨by omega, by omega, by omega, fun h3 => ⟨by omega, by omega, nx _ ?_⟩, fun h3 => ⟨by omega, nx _ ?_⟩⟩, fun h2 => ⟨by omega, nx _ ?_⟩⟩
    · simp only [scN]; rw [if_pos ⟨by omega, h3⟩]; rfl
    · simp only [scN]; rw [if_neg (fun hc => h3 hc.2)]; rfl
    · simp only [scN]; rw [if_neg (fun hc => by omega)]; rfl
  · have hE : scE n d l = 0 := by unfold scE; rw [if_pos hc, i3]; rfl
    exact ⟨by unfold scS; rw [if_pos hE, show l.length = i by omega], hE.symm⟩

end Go.Rx
