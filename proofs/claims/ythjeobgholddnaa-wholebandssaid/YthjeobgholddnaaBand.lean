/- Bands: which there may be; what an amount comes to by them. -/
import Derived.Test.YthjeobgholddnaaFrac2
namespace Go.Rx
open Go.Proofs
set_option linter.unusedSimpArgs false
set_option linter.unusedVariables false

def bandK : List CK := [.int .i64, .int .i64, .int .i64]
/-- A band's column: 0 its beginning, 1 and 2 the rates. -/
def bd (l : List SV) (i k : Nat) : Int := (elCell l i k).toInt
def bErr (l : List SV) (i : Nat) : Int :=
  if bd l i 0 < 0 ∨ 100000000000 < bd l i 0 ∨ (i = 0 ∧ bd l i 0 ≠ 0) then 1
  else if 0 < i ∧ bd l i 0 ≤ bd l (i - 1) 0 then 6
  else if rateB (bd l i 1) = true ∧ rateB (bd l i 2) = true then 0 else 50
def bErrs (l : List SV) : Nat → Int
  | 0 => 0
  | i + 1 => if bErrs l i = 0 then bErr l i else bErrs l i
def checkS (l : List SV) : Int := if l.length = 0 ∨ 8 < l.length then 2 else bErrs l l.length
/-- How wide a band is, up to an amount. -/
def widS (x : Int) (l : List SV) (i : Nat) : Int := maxV 0 ((if i + 1 < l.length then minV x (bd l (i + 1) 0) else x) - bd l i 0)
def bSum (k : Nat) (x : Int) (l : List SV) : Nat → Int
  | 0 => 0
  | i + 1 => bSum k x l i + widS x l i * bd l i k
def bE (x : Int) (l : List SV) : Int := if checkS l = 0 then chkE (rightB x) else checkS l
def bV (k : Nat) (x : Int) (l : List SV) : Int := if bE x l = 0 then bSum k x l l.length else 0
def btE (x y : Int) (l : List SV) : Int := if bE x l = 0 then bE y l else bE x l
def btV (x y : Int) (l : List SV) : Int := if btE x y l = 0 then bV 1 y l - bV 1 x l else 0
def chk_an (l : List SV) : Nat → Option Ann
  | 1000 => some ⟨Nat, fun i => ⟨[(0, .sl bandK l), (3, .int .i64 i)], []⟩, fun i => i < l.length ∧ l.length ≤ 8 ∧ bErrs l i = 0, fun i => l.length - i, [0, 3], [], [], fun _ _ => none⟩
  | _ => none
def rchk_an (l : List SV) : Nat → Option Ann
  | 0 => some ⟨Nat, fun i => ⟨[(0, .sl bandK l), (3, .int .i64 i)], []⟩, fun i => i ≤ l.length ∧ 1 ≤ l.length ∧ l.length ≤ 8 ∧ bErrs l i = 0, fun i => l.length - i, [0, 3], [], [], fun _ _ => none⟩
  | _ => none
def each_an (x : Int) (l : List SV) (f k : Nat) : Nat → Option Ann
  | 1000 => some ⟨Nat, fun i => ⟨[(0, .int .i64 x), (1, .sl bandK l), (2, .fn f []), (9, .int .i64 (bSum k x l i)), (10, .int .i64 i)], []⟩, fun i => i ≤ l.length ∧ checkS l = 0 ∧ rightB x = true, fun i => l.length - i, [0, 1, 2, 9, 10], [], [], fun _ _ => none⟩
  | _ => none

def sh_bcheck : List SV → Option (List SV)
  | [l'] => (match slOf [.int .i64, .int .i64, .int .i64] l' with | some l => some l | _ => none)
  | _ => none
def em_bcheck : List SV → List SV := fun l => [.sl [.int .i64, .int .i64, .int .i64] l]
theorem sh_bcheck_le : ∀ us a, sh_bcheck us = some a → leL us (em_bcheck a) := by
  intro us a h
  unfold sh_bcheck at h
  split at h
  · split at h
    · cases h; exact (.cons (.sl (by assumption)) .nil)
    · cases h
  · cases h
def bcheckC : Con := conOf sh_bcheck (fun _ => none) (fun l => .int .i64 (checkS l))
set_option maxRecDepth 100000 in
theorem vc_bcheck (l : List SV) : (wpF ⟨66, tyT, [(32, rateC)], false, 0, [], false⟩ ((chk_an l)) [0] Try.f11 (em_bcheck l) (.int .i64 (checkS l))) = (((((decide ((↑l.length : Int) = (0 : Int)) = true) → (((2 : Int) = checkS l) ∧ (True))) ∧ ((decide ((↑l.length : Int) = (0 : Int)) = false) → (((decide ((8 : Int) < (↑l.length : Int)) = true) → (((2 : Int) = checkS l) ∧ (True))) ∧ ((decide ((8 : Int) < (↑l.length : Int)) = false) → (Ob ((((0 : Int) ≤ (0 : Int)) ∧ ((0 : Int) < (↑l.length : Int)))) ∧ (((decide ((elCell l (0 : Nat) (0 : Nat)).toInt < (0 : Int)) = true) → (((1 : Int) = checkS l) ∧ (True))) ∧ ((decide ((elCell l (0 : Nat) (0 : Nat)).toInt < (0 : Int)) = false) → (((decide ((100000000000 : Int) < (elCell l (0 : Nat) (0 : Nat)).toInt) = true) → (((1 : Int) = checkS l) ∧ (True))) ∧ ((decide ((100000000000 : Int) < (elCell l (0 : Nat) (0 : Nat)).toInt) = false) → (((decide ((0 : Int) = (0 : Int)) = true) → ((((!decide ((elCell l (0 : Nat) (0 : Nat)).toInt = (0 : Int))) = true) → (((1 : Int) = checkS l) ∧ (True))) ∧ (((!decide ((elCell l (0 : Nat) (0 : Nat)).toInt = (0 : Int))) = false) → (((decide ((0 : Int) < (0 : Int)) = true) → (Ob ((((0 : Int) ≤ (-1 : Int)) ∧ ((-1 : Int) < (↑l.length : Int)))) ∧ (((decide ((elCell l (0 : Nat) (0 : Nat)).toInt ≤ (elCell l (0 : Nat) (0 : Nat)).toInt) = true) → (((6 : Int) = checkS l) ∧ (True))) ∧ ((decide ((elCell l (0 : Nat) (0 : Nat)).toInt ≤ (elCell l (0 : Nat) (0 : Nat)).toInt) = false) → ((((!rateB (elCell l (0 : Nat) (1 : Nat)).toInt) = true) → (((50 : Int) = checkS l) ∧ (True))) ∧ (((!rateB (elCell l (0 : Nat) (1 : Nat)).toInt) = false) → ((((!rateB (elCell l (0 : Nat) (2 : Nat)).toInt) = true) → (((50 : Int) = checkS l) ∧ (True))) ∧ (((!rateB (elCell l (0 : Nat) (2 : Nat)).toInt) = false) → (((decide ((1 : Int) < (↑l.length : Int)) = true) → (∃ (x1 : Nat), ((l = l) ∧ (((1 : Int) = (↑x1 : Int)) ∧ (((x1 < l.length) ∧ ((l.length ≤ (8 : Nat)) ∧ (bErrs l x1 = (0 : Int)))) ∧ ((True) ∧ (True))))))) ∧ ((decide ((1 : Int) < (↑l.length : Int)) = false) → (((0 : Int) = checkS l) ∧ (True)))))))))))) ∧ ((decide ((0 : Int) < (0 : Int)) = false) → ((((!rateB (elCell l (0 : Nat) (1 : Nat)).toInt) = true) → (((50 : Int) = checkS l) ∧ (True))) ∧ (((!rateB (elCell l (0 : Nat) (1 : Nat)).toInt) = false) → ((((!rateB (elCell l (0 : Nat) (2 : Nat)).toInt) = true) → (((50 : Int) = checkS l) ∧ (True))) ∧ (((!rateB (elCell l (0 : Nat) (2 : Nat)).toInt) = false) → (((decide ((1 : Int) < (↑l.length : Int)) = true) → (∃ (x2 : Nat), ((l = l) ∧ (((1 : Int) = (↑x2 : Int)) ∧ (((x2 < l.length) ∧ ((l.length ≤ (8 : Nat)) ∧ (bErrs l x2 = (0 : Int)))) ∧ ((True) ∧ (True))))))) ∧ ((decide ((1 : Int) < (↑l.length : Int)) = false) → (((0 : Int) = checkS l) ∧ (True))))))))))))) ∧ ((decide ((0 : Int) = (0 : Int)) = false) → (((decide ((0 : Int) < (0 : Int)) = true) → (Ob ((((0 : Int) ≤ (-1 : Int)) ∧ ((-1 : Int) < (↑l.length : Int)))) ∧ (((decide ((elCell l (0 : Nat) (0 : Nat)).toInt ≤ (elCell l (0 : Nat) (0 : Nat)).toInt) = true) → (((6 : Int) = checkS l) ∧ (True))) ∧ ((decide ((elCell l (0 : Nat) (0 : Nat)).toInt ≤ (elCell l (0 : Nat) (0 : Nat)).toInt) = false) → ((((!rateB (elCell l (0 : Nat) (1 : Nat)).toInt) = true) → (((50 : Int) = checkS l) ∧ (True))) ∧ (((!rateB (elCell l (0 : Nat) (1 : Nat)).toInt) = false) → ((((!rateB (elCell l (0 : Nat) (2 : Nat)).toInt) = true) → (((50 : Int) = checkS l) ∧ (True))) ∧ (((!rateB (elCell l (0 : Nat) (2 : Nat)).toInt) = false) → (((decide ((1 : Int) < (↑l.length : Int)) = true) → (∃ (x3 : Nat), ((l = l) ∧ (((1 : Int) = (↑x3 : Int)) ∧ (((x3 < l.length) ∧ ((l.length ≤ (8 : Nat)) ∧ (bErrs l x3 = (0 : Int)))) ∧ ((True) ∧ (True))))))) ∧ ((decide ((1 : Int) < (↑l.length : Int)) = false) → (((0 : Int) = checkS l) ∧ (True)))))))))))) ∧ ((decide ((0 : Int) < (0 : Int)) = false) → ((((!rateB (elCell l (0 : Nat) (1 : Nat)).toInt) = true) → (((50 : Int) = checkS l) ∧ (True))) ∧ (((!rateB (elCell l (0 : Nat) (1 : Nat)).toInt) = false) → ((((!rateB (elCell l (0 : Nat) (2 : Nat)).toInt) = true) → (((50 : Int) = checkS l) ∧ (True))) ∧ (((!rateB (elCell l (0 : Nat) (2 : Nat)).toInt) = false) → (((decide ((1 : Int) < (↑l.length : Int)) = true) → (∃ (x4 : Nat), ((l = l) ∧ (((1 : Int) = (↑x4 : Int)) ∧ (((x4 < l.length) ∧ ((l.length ≤ (8 : Nat)) ∧ (bErrs l x4 = (0 : Int)))) ∧ ((True) ∧ (True))))))) ∧ ((decide ((1 : Int) < (↑l.length : Int)) = false) → (((0 : Int) = checkS l) ∧ (True))))))))))))))))))))) ∧ ((∀ (x5 : Nat), (((x5 < l.length) ∧ ((l.length ≤ (8 : Nat)) ∧ (bErrs l x5 = (0 : Int)))) → (Ob ((((0 : Int) ≤ (↑x5 : Int)) ∧ ((↑x5 : Int) < (↑l.length : Int)))) ∧ (((decide ((elCell l x5 (0 : Nat)).toInt < (0 : Int)) = true) → (((1 : Int) = checkS l) ∧ (True))) ∧ ((decide ((elCell l x5 (0 : Nat)).toInt < (0 : Int)) = false) → (((decide ((100000000000 : Int) < (elCell l x5 (0 : Nat)).toInt) = true) → (((1 : Int) = checkS l) ∧ (True))) ∧ ((decide ((100000000000 : Int) < (elCell l x5 (0 : Nat)).toInt) = false) → (((decide ((↑x5 : Int) = (0 : Int)) = true) → ((((!decide ((elCell l x5 (0 : Nat)).toInt = (0 : Int))) = true) → (((1 : Int) = checkS l) ∧ (True))) ∧ (((!decide ((elCell l x5 (0 : Nat)).toInt = (0 : Int))) = false) → (((decide ((0 : Int) < (↑x5 : Int)) = true) → (Ob ((((0 : Int) ≤ IntKind.i64.wrap ((↑x5 : Int) - (1 : Int))) ∧ (IntKind.i64.wrap ((↑x5 : Int) - (1 : Int)) < (↑l.length : Int)))) ∧ (((decide ((elCell l x5 (0 : Nat)).toInt ≤ (elCell l (IntKind.i64.wrap ((↑x5 : Int) - (1 : Int))).toNat (0 : Nat)).toInt) = true) → (((6 : Int) = checkS l) ∧ (True))) ∧ ((decide ((elCell l x5 (0 : Nat)).toInt ≤ (elCell l (IntKind.i64.wrap ((↑x5 : Int) - (1 : Int))).toNat (0 : Nat)).toInt) = false) → ((((!rateB (elCell l x5 (1 : Nat)).toInt) = true) → (((50 : Int) = checkS l) ∧ (True))) ∧ (((!rateB (elCell l x5 (1 : Nat)).toInt) = false) → ((((!rateB (elCell l x5 (2 : Nat)).toInt) = true) → (((50 : Int) = checkS l) ∧ (True))) ∧ (((!rateB (elCell l x5 (2 : Nat)).toInt) = false) → (((decide (IntKind.i64.wrap ((↑x5 : Int) + (1 : Int)) < (↑l.length : Int)) = true) → (∃ (x6 : Nat), ((l = l) ∧ ((IntKind.i64.wrap ((↑x5 : Int) + (1 : Int)) = (↑x6 : Int)) ∧ (((x6 < l.length) ∧ ((l.length ≤ (8 : Nat)) ∧ (bErrs l x6 = (0 : Int)))) ∧ ((l.length - x6 < l.length - x5) ∧ (True))))))) ∧ ((decide (IntKind.i64.wrap ((↑x5 : Int) + (1 : Int)) < (↑l.length : Int)) = false) → (((0 : Int) = checkS l) ∧ (True)))))))))))) ∧ ((decide ((0 : Int) < (↑x5 : Int)) = false) → ((((!rateB (elCell l x5 (1 : Nat)).toInt) = true) → (((50 : Int) = checkS l) ∧ (True))) ∧ (((!rateB (elCell l x5 (1 : Nat)).toInt) = false) → ((((!rateB (elCell l x5 (2 : Nat)).toInt) = true) → (((50 : Int) = checkS l) ∧ (True))) ∧ (((!rateB (elCell l x5 (2 : Nat)).toInt) = false) → (((decide (IntKind.i64.wrap ((↑x5 : Int) + (1 : Int)) < (↑l.length : Int)) = true) → (∃ (x7 : Nat), ((l = l) ∧ ((IntKind.i64.wrap ((↑x5 : Int) + (1 : Int)) = (↑x7 : Int)) ∧ (((x7 < l.length) ∧ ((l.length ≤ (8 : Nat)) ∧ (bErrs l x7 = (0 : Int)))) ∧ ((l.length - x7 < l.length - x5) ∧ (True))))))) ∧ ((decide (IntKind.i64.wrap ((↑x5 : Int) + (1 : Int)) < (↑l.length : Int)) = false) → (((0 : Int) = checkS l) ∧ (True))))))))))))) ∧ ((decide ((↑x5 : Int) = (0 : Int)) = false) → (((decide ((0 : Int) < (↑x5 : Int)) = true) → (Ob ((((0 : Int) ≤ IntKind.i64.wrap ((↑x5 : Int) - (1 : Int))) ∧ (IntKind.i64.wrap ((↑x5 : Int) - (1 : Int)) < (↑l.length : Int)))) ∧ (((decide ((elCell l x5 (0 : Nat)).toInt ≤ (elCell l (IntKind.i64.wrap ((↑x5 : Int) - (1 : Int))).toNat (0 : Nat)).toInt) = true) → (((6 : Int) = checkS l) ∧ (True))) ∧ ((decide ((elCell l x5 (0 : Nat)).toInt ≤ (elCell l (IntKind.i64.wrap ((↑x5 : Int) - (1 : Int))).toNat (0 : Nat)).toInt) = false) → ((((!rateB (elCell l x5 (1 : Nat)).toInt) = true) → (((50 : Int) = checkS l) ∧ (True))) ∧ (((!rateB (elCell l x5 (1 : Nat)).toInt) = false) → ((((!rateB (elCell l x5 (2 : Nat)).toInt) = true) → (((50 : Int) = checkS l) ∧ (True))) ∧ (((!rateB (elCell l x5 (2 : Nat)).toInt) = false) → (((decide (IntKind.i64.wrap ((↑x5 : Int) + (1 : Int)) < (↑l.length : Int)) = true) → (∃ (x8 : Nat), ((l = l) ∧ ((IntKind.i64.wrap ((↑x5 : Int) + (1 : Int)) = (↑x8 : Int)) ∧ (((x8 < l.length) ∧ ((l.length ≤ (8 : Nat)) ∧ (bErrs l x8 = (0 : Int)))) ∧ ((l.length - x8 < l.length - x5) ∧ (True))))))) ∧ ((decide (IntKind.i64.wrap ((↑x5 : Int) + (1 : Int)) < (↑l.length : Int)) = false) → (((0 : Int) = checkS l) ∧ (True)))))))))))) ∧ ((decide ((0 : Int) < (↑x5 : Int)) = false) → ((((!rateB (elCell l x5 (1 : Nat)).toInt) = true) → (((50 : Int) = checkS l) ∧ (True))) ∧ (((!rateB (elCell l x5 (1 : Nat)).toInt) = false) → ((((!rateB (elCell l x5 (2 : Nat)).toInt) = true) → (((50 : Int) = checkS l) ∧ (True))) ∧ (((!rateB (elCell l x5 (2 : Nat)).toInt) = false) → (((decide (IntKind.i64.wrap ((↑x5 : Int) + (1 : Int)) < (↑l.length : Int)) = true) → (∃ (x9 : Nat), ((l = l) ∧ ((IntKind.i64.wrap ((↑x5 : Int) + (1 : Int)) = (↑x9 : Int)) ∧ (((x9 < l.length) ∧ ((l.length ≤ (8 : Nat)) ∧ (bErrs l x9 = (0 : Int)))) ∧ ((l.length - x9 < l.length - x5) ∧ (True))))))) ∧ ((decide (IntKind.i64.wrap ((↑x5 : Int) + (1 : Int)) < (↑l.length : Int)) = false) → (((0 : Int) = checkS l) ∧ (True))))))))))))))))))) ∧ (True)))) := by kernel_rfl
def sh_brate : List SV → Option (Int × Int × Int)
  | [.agg [.int .i64 f, .int .i64 r, .int .i64 e]] => some (f, r, e)
  | _ => none
def em_brate : Int × Int × Int → List SV := fun (f, r, e) => [.agg [.int .i64 f, .int .i64 r, .int .i64 e]]
theorem sh_brate_le : ∀ us a, sh_brate us = some a → leL us (em_brate a) := by
  intro us a h
  unfold sh_brate at h
  split at h
  · cases h; exact (.cons (.agg (.cons (.refl _) (.cons (.refl _) (.cons (.refl _) .nil)))) .nil)
  · cases h
def brateC : Con := conOf sh_brate (fun _ => none) (fun (f, r, e) => .int .i64 r)
set_option maxRecDepth 100000 in
theorem vc_brate (f : Int) (r : Int) (e : Int) : (wpF ⟨5, tyT, [], false, 0, [], false⟩ (noAnn) [] Try.f34 (em_brate (f, r, e)) (.int .i64 r)) = (((r = r) ∧ (True))) := by kernel_rfl
def sh_bemp : List SV → Option (Int × Int × Int)
  | [.agg [.int .i64 f, .int .i64 r, .int .i64 e]] => some (f, r, e)
  | _ => none
def em_bemp : Int × Int × Int → List SV := fun (f, r, e) => [.agg [.int .i64 f, .int .i64 r, .int .i64 e]]
theorem sh_bemp_le : ∀ us a, sh_bemp us = some a → leL us (em_bemp a) := by
  intro us a h
  unfold sh_bemp at h
  split at h
  · cases h; exact (.cons (.agg (.cons (.refl _) (.cons (.refl _) (.cons (.refl _) .nil)))) .nil)
  · cases h
def bempC : Con := conOf sh_bemp (fun _ => none) (fun (f, r, e) => .int .i64 e)
set_option maxRecDepth 100000 in
theorem vc_bemp (f : Int) (r : Int) (e : Int) : (wpF ⟨5, tyT, [], false, 0, [], false⟩ (noAnn) [] Try.f35 (em_bemp (f, r, e)) (.int .i64 e)) = (((e = e) ∧ (True))) := by kernel_rfl
def sh_width : List SV → Option (Int × Int × (List SV))
  | [.int .i64 x, .int .i64 i, l'] => (match slOf [.int .i64, .int .i64, .int .i64] l' with | some l => some (x, i, l) | _ => none)
  | _ => none
def em_width : Int × Int × (List SV) → List SV := fun (x, i, l) => [.int .i64 x, .int .i64 i, .sl [.int .i64, .int .i64, .int .i64] l]
theorem sh_width_le : ∀ us a, sh_width us = some a → leL us (em_width a) := by
  intro us a h
  unfold sh_width at h
  split at h
  · split at h
    · cases h; exact (.cons (.refl _) (.cons (.refl _) (.cons (.sl (by assumption)) .nil)))
    · cases h
  · cases h
def widthC : Con := conOf sh_width (fun (x, i, l) => some (Ob (0 ≤ i ∧ i < l.length ∧ l.length ≤ 8 ∧ rightB x = true ∧ checkS l = 0))) (fun (x, i, l) => .int .i64 (widS x l i.toNat))
set_option maxRecDepth 100000 in
theorem vc_width (x : Int) (i : Int) (l : List SV) : (wpF ⟨30, tyT, [], false, 0, [], false⟩ (noAnn) [] Try.f42 (em_width (x, i, l)) (.int .i64 (widS x l i.toNat))) = ((((decide (IntKind.i64.wrap (i + (1 : Int)) < (↑l.length : Int)) = true) → (Ob ((((0 : Int) ≤ IntKind.i64.wrap (i + (1 : Int))) ∧ (IntKind.i64.wrap (i + (1 : Int)) < (↑l.length : Int)))) ∧ (Ob ((((0 : Int) ≤ i) ∧ (i < (↑l.length : Int)))) ∧ ((maxV (0 : Int) (IntKind.i64.wrap (minV x (elCell l (IntKind.i64.wrap (i + (1 : Int))).toNat (0 : Nat)).toInt - (elCell l i.toNat (0 : Nat)).toInt)) = widS x l i.toNat) ∧ (True))))) ∧ ((decide (IntKind.i64.wrap (i + (1 : Int)) < (↑l.length : Int)) = false) → (Ob ((((0 : Int) ≤ i) ∧ (i < (↑l.length : Int)))) ∧ ((maxV (0 : Int) (IntKind.i64.wrap (x - (elCell l i.toNat (0 : Nat)).toInt)) = widS x l i.toNat) ∧ (True)))))) := by kernel_rfl
def sh_eachR : List SV → Option (Int × (List SV))
  | [.int .i64 x, l', .fn 34 []] => (match slOf [.int .i64, .int .i64, .int .i64] l' with | some l => some (x, l) | _ => none)
  | _ => none
def em_eachR : Int × (List SV) → List SV := fun (x, l) => [.int .i64 x, .sl [.int .i64, .int .i64, .int .i64] l, .fn 34 []]
theorem sh_eachR_le : ∀ us a, sh_eachR us = some a → leL us (em_eachR a) := by
  intro us a h
  unfold sh_eachR at h
  split at h
  · split at h
    · cases h; exact (.cons (.refl _) (.cons (.sl (by assumption)) (.cons (.refl _) .nil)))
    · cases h
  · cases h
def eachRC : Con := conOf sh_eachR (fun _ => none) (fun (x, l) => .tup [.int .i64 (bV 1 x l), .int .i64 (bE x l)])
set_option maxRecDepth 100000 in
theorem vc_eachR (x : Int) (l : List SV) : (wpF ⟨58, tyT, [(11, bcheckC), (29, rightC), (42, widthC), (34, brateC), (23, partC)], false, 0, [], false⟩ ((each_an x l 34 1)) [0] Try.f33 (em_eachR (x, l)) (.tup [.int .i64 (bV 1 x l), .int .i64 (bE x l)])) = ((((((!decide (checkS l = (0 : Int))) = true) → (((0 : Int) = bV (1 : Nat) x l) ∧ ((checkS l = bE x l) ∧ (True)))) ∧ (((!decide (checkS l = (0 : Int))) = false) → (Ob (((1 : Nat) ≤ (9000000000000000000 : Nat))) ∧ ((((!rightL [SV.int IntKind.i64 x]) = true) → (((0 : Int) = bV (1 : Nat) x l) ∧ (((10 : Int) = bE x l) ∧ (True)))) ∧ (((!rightL [SV.int IntKind.i64 x]) = false) → (((decide ((0 : Int) = (↑l.length : Int)) = true) → (((0 : Int) = bV (1 : Nat) x l) ∧ (((0 : Int) = bE x l) ∧ (True)))) ∧ ((decide ((0 : Int) = (↑l.length : Int)) = false) → (Ob ((((0 : Int) ≤ (0 : Int)) ∧ ((0 : Int) < (↑l.length : Int)))) ∧ (((decide (x ≤ (elCell l (0 : Nat) (0 : Nat)).toInt) = true) → (((0 : Int) = bV (1 : Nat) x l) ∧ (((0 : Int) = bE x l) ∧ (True)))) ∧ ((decide (x ≤ (elCell l (0 : Nat) (0 : Nat)).toInt) = false) → (Ob ((((0 : Int) ≤ (0 : Int)) ∧ (((0 : Int) < (↑l.length : Int)) ∧ ((l.length ≤ (8 : Nat)) ∧ ((rightB x = true) ∧ (checkS l = (0 : Int))))))) ∧ (Ob ((((0 : Int) ≤ (0 : Int)) ∧ ((0 : Int) < (↑l.length : Int)))) ∧ ((((!decide (partE (widS x l (0 : Nat)) (elCell l (0 : Nat) (1 : Nat)).toInt = (0 : Int))) = true) → (((0 : Int) = bV (1 : Nat) x l) ∧ ((partE (widS x l (0 : Nat)) (elCell l (0 : Nat) (1 : Nat)).toInt = bE x l) ∧ (True)))) ∧ (((!decide (partE (widS x l (0 : Nat)) (elCell l (0 : Nat) (1 : Nat)).toInt = (0 : Int))) = false) → (∃ (x1 : Nat), ((x = x) ∧ ((l = l) ∧ ((SV.fn (34 : Nat) [] = SV.fn (34 : Nat) []) ∧ ((IntKind.i64.wrap ((0 : Int) + partV (widS x l (0 : Nat)) (elCell l (0 : Nat) (1 : Nat)).toInt) = bSum (1 : Nat) x l x1) ∧ (((1 : Int) = (↑x1 : Int)) ∧ (((x1 ≤ l.length) ∧ ((checkS l = (0 : Int)) ∧ (rightB x = true))) ∧ ((True) ∧ (True))))))))))))))))))))))) ∧ ((∀ (x2 : Nat), (((x2 ≤ l.length) ∧ ((checkS l = (0 : Int)) ∧ (rightB x = true))) → (((decide ((↑x2 : Int) = (↑l.length : Int)) = true) → ((bSum (1 : Nat) x l x2 = bV (1 : Nat) x l) ∧ (((0 : Int) = bE x l) ∧ (True)))) ∧ ((decide ((↑x2 : Int) = (↑l.length : Int)) = false) → (Ob ((((0 : Int) ≤ (↑x2 : Int)) ∧ ((↑x2 : Int) < (↑l.length : Int)))) ∧ (((decide (x ≤ (elCell l x2 (0 : Nat)).toInt) = true) → ((bSum (1 : Nat) x l x2 = bV (1 : Nat) x l) ∧ (((0 : Int) = bE x l) ∧ (True)))) ∧ ((decide (x ≤ (elCell l x2 (0 : Nat)).toInt) = false) → (Ob ((((0 : Int) ≤ (↑x2 : Int)) ∧ (((↑x2 : Int) < (↑l.length : Int)) ∧ ((l.length ≤ (8 : Nat)) ∧ ((rightB x = true) ∧ (checkS l = (0 : Int))))))) ∧ (Ob ((((0 : Int) ≤ (↑x2 : Int)) ∧ ((↑x2 : Int) < (↑l.length : Int)))) ∧ ((((!decide (partE (widS x l x2) (elCell l x2 (1 : Nat)).toInt = (0 : Int))) = true) → (((0 : Int) = bV (1 : Nat) x l) ∧ ((partE (widS x l x2) (elCell l x2 (1 : Nat)).toInt = bE x l) ∧ (True)))) ∧ (((!decide (partE (widS x l x2) (elCell l x2 (1 : Nat)).toInt = (0 : Int))) = false) → (∃ (x3 : Nat), ((x = x) ∧ ((l = l) ∧ ((SV.fn (34 : Nat) [] = SV.fn (34 : Nat) []) ∧ ((IntKind.i64.wrap (bSum (1 : Nat) x l x2 + partV (widS x l x2) (elCell l x2 (1 : Nat)).toInt) = bSum (1 : Nat) x l x3) ∧ ((IntKind.i64.wrap ((↑x2 : Int) + (1 : Int)) = (↑x3 : Int)) ∧ (((x3 ≤ l.length) ∧ ((checkS l = (0 : Int)) ∧ (rightB x = true))) ∧ ((l.length - x3 < l.length - x2) ∧ (True)))))))))))))))))))) ∧ (True)))) := by kernel_rfl
def sh_eachE : List SV → Option (Int × (List SV))
  | [.int .i64 x, l', .fn 35 []] => (match slOf [.int .i64, .int .i64, .int .i64] l' with | some l => some (x, l) | _ => none)
  | _ => none
def em_eachE : Int × (List SV) → List SV := fun (x, l) => [.int .i64 x, .sl [.int .i64, .int .i64, .int .i64] l, .fn 35 []]
theorem sh_eachE_le : ∀ us a, sh_eachE us = some a → leL us (em_eachE a) := by
  intro us a h
  unfold sh_eachE at h
  split at h
  · split at h
    · cases h; exact (.cons (.refl _) (.cons (.sl (by assumption)) (.cons (.refl _) .nil)))
    · cases h
  · cases h
def eachEC : Con := conOf sh_eachE (fun _ => none) (fun (x, l) => .tup [.int .i64 (bV 2 x l), .int .i64 (bE x l)])
set_option maxRecDepth 100000 in
theorem vc_eachE (x : Int) (l : List SV) : (wpF ⟨58, tyT, [(11, bcheckC), (29, rightC), (42, widthC), (35, bempC), (23, partC)], false, 0, [], false⟩ ((each_an x l 35 2)) [0] Try.f33 (em_eachE (x, l)) (.tup [.int .i64 (bV 2 x l), .int .i64 (bE x l)])) = ((((((!decide (checkS l = (0 : Int))) = true) → (((0 : Int) = bV (2 : Nat) x l) ∧ ((checkS l = bE x l) ∧ (True)))) ∧ (((!decide (checkS l = (0 : Int))) = false) → (Ob (((1 : Nat) ≤ (9000000000000000000 : Nat))) ∧ ((((!rightL [SV.int IntKind.i64 x]) = true) → (((0 : Int) = bV (2 : Nat) x l) ∧ (((10 : Int) = bE x l) ∧ (True)))) ∧ (((!rightL [SV.int IntKind.i64 x]) = false) → (((decide ((0 : Int) = (↑l.length : Int)) = true) → (((0 : Int) = bV (2 : Nat) x l) ∧ (((0 : Int) = bE x l) ∧ (True)))) ∧ ((decide ((0 : Int) = (↑l.length : Int)) = false) → (Ob ((((0 : Int) ≤ (0 : Int)) ∧ ((0 : Int) < (↑l.length : Int)))) ∧ (((decide (x ≤ (elCell l (0 : Nat) (0 : Nat)).toInt) = true) → (((0 : Int) = bV (2 : Nat) x l) ∧ (((0 : Int) = bE x l) ∧ (True)))) ∧ ((decide (x ≤ (elCell l (0 : Nat) (0 : Nat)).toInt) = false) → (Ob ((((0 : Int) ≤ (0 : Int)) ∧ (((0 : Int) < (↑l.length : Int)) ∧ ((l.length ≤ (8 : Nat)) ∧ ((rightB x = true) ∧ (checkS l = (0 : Int))))))) ∧ (Ob ((((0 : Int) ≤ (0 : Int)) ∧ ((0 : Int) < (↑l.length : Int)))) ∧ ((((!decide (partE (widS x l (0 : Nat)) (elCell l (0 : Nat) (2 : Nat)).toInt = (0 : Int))) = true) → (((0 : Int) = bV (2 : Nat) x l) ∧ ((partE (widS x l (0 : Nat)) (elCell l (0 : Nat) (2 : Nat)).toInt = bE x l) ∧ (True)))) ∧ (((!decide (partE (widS x l (0 : Nat)) (elCell l (0 : Nat) (2 : Nat)).toInt = (0 : Int))) = false) → (∃ (x1 : Nat), ((x = x) ∧ ((l = l) ∧ ((SV.fn (35 : Nat) [] = SV.fn (35 : Nat) []) ∧ ((IntKind.i64.wrap ((0 : Int) + partV (widS x l (0 : Nat)) (elCell l (0 : Nat) (2 : Nat)).toInt) = bSum (2 : Nat) x l x1) ∧ (((1 : Int) = (↑x1 : Int)) ∧ (((x1 ≤ l.length) ∧ ((checkS l = (0 : Int)) ∧ (rightB x = true))) ∧ ((True) ∧ (True))))))))))))))))))))))) ∧ ((∀ (x2 : Nat), (((x2 ≤ l.length) ∧ ((checkS l = (0 : Int)) ∧ (rightB x = true))) → (((decide ((↑x2 : Int) = (↑l.length : Int)) = true) → ((bSum (2 : Nat) x l x2 = bV (2 : Nat) x l) ∧ (((0 : Int) = bE x l) ∧ (True)))) ∧ ((decide ((↑x2 : Int) = (↑l.length : Int)) = false) → (Ob ((((0 : Int) ≤ (↑x2 : Int)) ∧ ((↑x2 : Int) < (↑l.length : Int)))) ∧ (((decide (x ≤ (elCell l x2 (0 : Nat)).toInt) = true) → ((bSum (2 : Nat) x l x2 = bV (2 : Nat) x l) ∧ (((0 : Int) = bE x l) ∧ (True)))) ∧ ((decide (x ≤ (elCell l x2 (0 : Nat)).toInt) = false) → (Ob ((((0 : Int) ≤ (↑x2 : Int)) ∧ (((↑x2 : Int) < (↑l.length : Int)) ∧ ((l.length ≤ (8 : Nat)) ∧ ((rightB x = true) ∧ (checkS l = (0 : Int))))))) ∧ (Ob ((((0 : Int) ≤ (↑x2 : Int)) ∧ ((↑x2 : Int) < (↑l.length : Int)))) ∧ ((((!decide (partE (widS x l x2) (elCell l x2 (2 : Nat)).toInt = (0 : Int))) = true) → (((0 : Int) = bV (2 : Nat) x l) ∧ ((partE (widS x l x2) (elCell l x2 (2 : Nat)).toInt = bE x l) ∧ (True)))) ∧ (((!decide (partE (widS x l x2) (elCell l x2 (2 : Nat)).toInt = (0 : Int))) = false) → (∃ (x3 : Nat), ((x = x) ∧ ((l = l) ∧ ((SV.fn (35 : Nat) [] = SV.fn (35 : Nat) []) ∧ ((IntKind.i64.wrap (bSum (2 : Nat) x l x2 + partV (widS x l x2) (elCell l x2 (2 : Nat)).toInt) = bSum (2 : Nat) x l x3) ∧ ((IntKind.i64.wrap ((↑x2 : Int) + (1 : Int)) = (↑x3 : Int)) ∧ (((x3 ≤ l.length) ∧ ((checkS l = (0 : Int)) ∧ (rightB x = true))) ∧ ((l.length - x3 < l.length - x2) ∧ (True)))))))))))))))))))) ∧ (True)))) := by kernel_rfl
def eachC : Con := conOr (fun us => (sh_eachR us).isSome) eachRC eachEC
def sh_bexact : List SV → Option (Int × (List SV))
  | [.int .i64 x, l'] => (match slOf [.int .i64, .int .i64, .int .i64] l' with | some l => some (x, l) | _ => none)
  | _ => none
def em_bexact : Int × (List SV) → List SV := fun (x, l) => [.int .i64 x, .sl [.int .i64, .int .i64, .int .i64] l]
theorem sh_bexact_le : ∀ us a, sh_bexact us = some a → leL us (em_bexact a) := by
  intro us a h
  unfold sh_bexact at h
  split at h
  · split at h
    · cases h; exact (.cons (.refl _) (.cons (.sl (by assumption)) .nil))
    · cases h
  · cases h
def bexactC : Con := conOf sh_bexact (fun _ => none) (fun (x, l) => .tup [.int .i64 (bV 1 x l), .int .i64 (bE x l)])
set_option maxRecDepth 100000 in
theorem vc_bexact (x : Int) (l : List SV) : (wpF ⟨11, tyT, [(33, eachC)], false, 0, [], false⟩ (noAnn) [] Try.f13 (em_bexact (x, l)) (.tup [.int .i64 (bV 1 x l), .int .i64 (bE x l)])) = (((bV (1 : Nat) x l = bV (1 : Nat) x l) ∧ ((bE x l = bE x l) ∧ (True)))) := by kernel_rfl
def sh_bemployer : List SV → Option (Int × (List SV))
  | [.int .i64 x, l'] => (match slOf [.int .i64, .int .i64, .int .i64] l' with | some l => some (x, l) | _ => none)
  | _ => none
def em_bemployer : Int × (List SV) → List SV := fun (x, l) => [.int .i64 x, .sl [.int .i64, .int .i64, .int .i64] l]
theorem sh_bemployer_le : ∀ us a, sh_bemployer us = some a → leL us (em_bemployer a) := by
  intro us a h
  unfold sh_bemployer at h
  split at h
  · split at h
    · cases h; exact (.cons (.refl _) (.cons (.sl (by assumption)) .nil))
    · cases h
  · cases h
def bemployerC : Con := conOf sh_bemployer (fun _ => none) (fun (x, l) => .tup [.int .i64 (bV 2 x l), .int .i64 (bE x l)])
set_option maxRecDepth 100000 in
theorem vc_bemployer (x : Int) (l : List SV) : (wpF ⟨11, tyT, [(33, eachC)], false, 0, [], false⟩ (noAnn) [] Try.f14 (em_bemployer (x, l)) (.tup [.int .i64 (bV 2 x l), .int .i64 (bE x l)])) = (((bV (2 : Nat) x l = bV (2 : Nat) x l) ∧ ((bE x l = bE x l) ∧ (True)))) := by kernel_rfl
def sh_bbetween : List SV → Option (Int × Int × (List SV))
  | [.int .i64 x, .int .i64 y, l'] => (match slOf [.int .i64, .int .i64, .int .i64] l' with | some l => some (x, y, l) | _ => none)
  | _ => none
def em_bbetween : Int × Int × (List SV) → List SV := fun (x, y, l) => [.int .i64 x, .int .i64 y, .sl [.int .i64, .int .i64, .int .i64] l]
theorem sh_bbetween_le : ∀ us a, sh_bbetween us = some a → leL us (em_bbetween a) := by
  intro us a h
  unfold sh_bbetween at h
  split at h
  · split at h
    · cases h; exact (.cons (.refl _) (.cons (.refl _) (.cons (.sl (by assumption)) .nil)))
    · cases h
  · cases h
def bbetweenC : Con := conOf sh_bbetween (fun _ => none) (fun (x, y, l) => .tup [.int .i64 (btV x y l), .int .i64 (btE x y l)])
set_option maxRecDepth 100000 in
theorem vc_bbetween (x : Int) (y : Int) (l : List SV) : (wpF ⟨32, tyT, [(13, bexactC)], false, 0, [], false⟩ (noAnn) [] Try.f12 (em_bbetween (x, y, l)) (.tup [.int .i64 (btV x y l), .int .i64 (btE x y l)])) = (((((!decide (bE x l = (0 : Int))) = true) → (((0 : Int) = btV x y l) ∧ ((bE x l = btE x y l) ∧ (True)))) ∧ (((!decide (bE x l = (0 : Int))) = false) → ((((!decide (bE y l = (0 : Int))) = true) → (((0 : Int) = btV x y l) ∧ ((bE y l = btE x y l) ∧ (True)))) ∧ (((!decide (bE y l = (0 : Int))) = false) → ((IntKind.i64.wrap (bV (1 : Nat) y l - bV (1 : Nat) x l) = btV x y l) ∧ (((0 : Int) = btE x y l) ∧ (True)))))))) := by kernel_rfl
theorem bd_eq (l : List SV) (i k : Nat) : (elCell l i k).toInt = bd l i k := rfl
theorem bErrs_stay {l : List SV} {i : Nat} (h : bErrs l i ≠ 0) : ∀ j, i ≤ j → bErrs l j = bErrs l i
  | 0, hj => by rw [Nat.le_zero.1 hj]
  | j + 1, hj => by
    rcases Nat.lt_or_ge i (j + 1) with h1 | h1
    · have := bErrs_stay h j (by omega)
      simp only [bErrs]
      rw [if_neg (by rw [this]; exact h), this]
    · rw [show i = j + 1 by omega]
theorem bErrs_back {l : List SV} {i j : Nat} (h : bErrs l j = 0) (hi : i ≤ j) : bErrs l i = 0 := by
  apply Classical.byContradiction
  intro hc
  have := bErrs_stay hc j hi
  rw [h] at this
  exact hc this.symm
/-- A band that may be. -/
theorem bErr_zero {l : List SV} {i : Nat} (h : bErr l i = 0) : 0 ≤ bd l i 0 ∧ bd l i 0 ≤ 100000000000 ∧ (i = 0 → bd l i 0 = 0) ∧ (0 < i → bd l (i - 1) 0 < bd l i 0) ∧ (0 ≤ bd l i 1 ∧ bd l i 1 ≤ 10000) ∧ (0 ≤ bd l i 2 ∧ bd l i 2 ≤ 10000) := by
  unfold bErr at h
  split at h
  · omega
  · split at h
    · omega
    · split at h
      · rename_i h1 h2 h3
        have := rateB_iff.1 h3.1
        have := rateB_iff.1 h3.2
        omega
      · omega
theorem check_zero {l : List SV} (h : checkS l = 0) : 1 ≤ l.length ∧ l.length ≤ 8 ∧ ∀ i, i < l.length → bErr l i = 0 := by
  unfold checkS at h
  split at h
  · omega
  · refine ⟨by omega, by omega, fun i hi => ?_⟩
    have h1 := bErrs_back h (i := i) (by omega)
    have h2 := bErrs_back h (i := i + 1) (by omega)
    simp only [bErrs] at h2
    rw [if_pos h1] at h2
    exact h2
/-- What a band tells of all. -/
theorem check_at {l : List SV} {i : Nat} (hi : i < l.length) (hl : l.length ≤ 8) (h : bErrs l i = 0) :
    (bd l i 0 < 0 ∨ 100000000000 < bd l i 0 ∨ (i = 0 ∧ bd l i 0 ≠ 0) → checkS l = 1) ∧
    (¬ (bd l i 0 < 0 ∨ 100000000000 < bd l i 0 ∨ (i = 0 ∧ bd l i 0 ≠ 0)) → (0 < i ∧ bd l i 0 ≤ bd l (i - 1) 0 → checkS l = 6) ∧
      (¬ (0 < i ∧ bd l i 0 ≤ bd l (i - 1) 0) → (rateB (bd l i 1) = false ∨ rateB (bd l i 2) = false → checkS l = 50) ∧
        (rateB (bd l i 1) = true → rateB (bd l i 2) = true → (i + 1 < l.length → bErrs l (i + 1) = 0) ∧ (¬ i + 1 < l.length → checkS l = 0)))) := by
  have nx : bErrs l (i + 1) = bErr l i := by simp only [bErrs]; rw [if_pos h]
  have hC : checkS l = bErrs l l.length := by unfold checkS; rw [if_neg (by omega)]
  have up : bErr l i ≠ 0 → checkS l = bErr l i := fun hne => by
    rw [hC, ← nx]; exact bErrs_stay (by rw [nx]; exact hne) _ (by omega)
  refine ⟨fun c => ?_, fun c => ⟨fun d => ?_, fun d => ⟨fun e => ?_, fun e1 e2 => ?_⟩⟩⟩
  · have : bErr l i = 1 := by unfold bErr; rw [if_pos c]
    rw [up (by omega), this]
  · have : bErr l i = 6 := by unfold bErr; rw [if_neg c, if_pos d]
    rw [up (by omega), this]
  · have : bErr l i = 50 := by
      unfold bErr; rw [if_neg c, if_neg d, if_neg]
      rintro ⟨q1, q2⟩
      rw [q1, q2] at e
      simp at e
    rw [up (by omega), this]
  · have : bErr l i = 0 := by unfold bErr; rw [if_neg c, if_neg d, if_pos ⟨e1, e2⟩]
    rw [this] at nx
    exact ⟨fun _ => nx, fun h2 => by rw [hC, show l.length = i + 1 by omega, nx]⟩

theorem bcheck_known : Known Try.prog 11 bcheckC := by
  refine known1 (nt := 66) (An := fun l => (chk_an l)) (labs := [0]) (lit := false) (em := em_bcheck) sh_bcheck_le (by kernel_rfl) mixedT tyT_ok (.cons rate_known .nil) Try.func11 (by kernel_rfl) (fun a => by kernel_rfl) (fun a => by rfl) (fun l ha => ?_)
  refine ⟨_, vc_bcheck l, ?_⟩
  simp only [Int.reduceLE, Int.reduceLT, Int.reduceEq, Int.reduceNe, Nat.reduceLeDiff, Nat.reduceEqDiff, beq_eq_false_iff_ne, beq_iff_eq, decide_eq_decide, ne_eq, eq_self, true_and, and_true, and_self, and_false, false_and, Bool.not_true, Bool.not_false, Bool.false_eq_true, Bool.true_eq_false, false_implies, true_implies, implies_true, imp_false, not_true, not_false_eq_true, decide_eq_true_eq, decide_eq_false_iff_not, Bool.not_eq_true', Bool.not_eq_false', Bool.and_eq_true, Classical.not_not, decide_true, decide_false, Bool.and_true, Bool.true_and, if_true, if_false, Ob_iff]
  simp only [bd_eq]
  refine ⟨⟨fun h => ?_, fun h => ⟨fun h2 => ?_, fun h2 => ?_⟩⟩, fun i ⟨i1, i2, i3⟩ => ?_⟩
  · unfold checkS; rw [if_pos (by omega)]
  · unfold checkS; rw [if_pos (by omega)]
  · obtain ⟨c1, c2⟩ := check_at (l := l) (i := 0) (by omega) (by omega) rfl
    refine ⟨by omega, ?_⟩
    repeat' first | exact trivial | with_reducible rfl | apply And.intro | apply Ob.mk | intro _
    all_goals first
      | exact (c1 (by omega)).symm
      | exact ((c2 (by omega)).2 (by omega)).1 (.inl (by assumption)) |>.symm
      | exact ((c2 (by omega)).2 (by omega)).1 (.inr (by assumption)) |>.symm
      | exact (((c2 (by omega)).2 (by omega)).2 (by assumption) (by assumption)).2 (by omega) |>.symm
      | exact ⟨1, rfl, by omega, by omega, (((c2 (by omega)).2 (by omega)).2 (by assumption) (by assumption)).1 (by omega)⟩
  · obtain ⟨c1, c2⟩ := check_at i1 i2 i3
    simp only [wrapI (n := (i : Int) - 1) (by omega), wrapI (n := (i : Int) + 1) (by omega), show ((i : Int) - 1).toNat = i - 1 by omega]
    refine ⟨by omega, ?_⟩
    repeat' first | exact trivial | with_reducible rfl | apply And.intro | apply Ob.mk | intro _
    all_goals first
      | omega
      | exact (c1 (by omega)).symm
      | exact ((c2 (by omega)).1 (by omega)).symm
      | exact ((c2 (by omega)).2 (by omega)).1 (.inl (by assumption)) |>.symm
      | exact ((c2 (by omega)).2 (by omega)).1 (.inr (by assumption)) |>.symm
      | exact (((c2 (by omega)).2 (by omega)).2 (by assumption) (by assumption)).2 (by omega) |>.symm
      | exact ⟨i + 1, rfl, ⟨by omega, by omega, (((c2 (by omega)).2 (by omega)).2 (by assumption) (by assumption)).1 (by omega)⟩, by omega⟩

theorem brate_known : Known Try.prog 34 brateC := by
  refine known1 (nt := 5) (An := fun (f, r, e) => noAnn) (labs := []) (lit := false) (em := em_brate) sh_brate_le (by kernel_rfl) mixedT tyT_ok .nil Try.func34 (by kernel_rfl) (fun a => by obtain ⟨f, r, e⟩ := a; kernel_rfl) (fun a => by obtain ⟨f, r, e⟩ := a; rfl) (fun a ha => ?_)
  obtain ⟨f, r, e⟩ := a
  refine ⟨_, vc_brate f r e, ?_⟩
  repeat' first | exact trivial | with_reducible rfl | apply And.intro | apply Ob.mk | intro _

theorem bemp_known : Known Try.prog 35 bempC := by
  refine known1 (nt := 5) (An := fun (f, r, e) => noAnn) (labs := []) (lit := false) (em := em_bemp) sh_bemp_le (by kernel_rfl) mixedT tyT_ok .nil Try.func35 (by kernel_rfl) (fun a => by obtain ⟨f, r, e⟩ := a; kernel_rfl) (fun a => by obtain ⟨f, r, e⟩ := a; rfl) (fun a ha => ?_)
  obtain ⟨f, r, e⟩ := a
  refine ⟨_, vc_bemp f r e, ?_⟩
  repeat' first | exact trivial | with_reducible rfl | apply And.intro | apply Ob.mk | intro _

theorem width_known : Known Try.prog 42 widthC := by
  refine known1 (nt := 30) (An := fun (x, i, l) => noAnn) (labs := []) (lit := false) (em := em_width) sh_width_le (by kernel_rfl) mixedT tyT_ok .nil Try.func42 (by kernel_rfl) (fun a => by obtain ⟨x, i, l⟩ := a; kernel_rfl) (fun a => by obtain ⟨x, i, l⟩ := a; rfl) (fun a ha => ?_)
  obtain ⟨x, i, l⟩ := a
  replace ha : 0 ≤ i ∧ i < l.length ∧ l.length ≤ 8 ∧ rightB x = true ∧ checkS l = 0 := ha.out
  refine ⟨_, vc_width x i l, ?_⟩
  obtain ⟨h1, h2, h3, h4, h5⟩ := ha
  obtain ⟨n1, n2, n3⟩ := check_zero h5
  have hx := rightB_iff.1 h4
  obtain ⟨i, rfl⟩ : ∃ k : Nat, i = k := ⟨i.toNat, by omega⟩
  have hi : i < l.length := by omega
  obtain ⟨z1, z2, _⟩ := bErr_zero (n3 i hi)
  simp only [Int.reduceLE, Int.reduceLT, Int.reduceEq, Int.reduceNe, Nat.reduceLeDiff, Nat.reduceEqDiff, beq_eq_false_iff_ne, beq_iff_eq, decide_eq_decide, ne_eq, eq_self, true_and, and_true, and_self, and_false, false_and, Bool.not_true, Bool.not_false, Bool.false_eq_true, Bool.true_eq_false, false_implies, true_implies, implies_true, imp_false, not_true, not_false_eq_true, decide_eq_true_eq, decide_eq_false_iff_not, Bool.not_eq_true', Bool.not_eq_false', Bool.and_eq_true, Classical.not_not, decide_true, decide_false, Bool.and_true, Bool.true_and, if_true, if_false, Ob_iff]
  simp only [bd_eq]
  simp only [wrapI (n := (i : Int) + 1) (by omega), show ((i : Int) + 1).toNat = i + 1 by omega, Int.toNat_natCast]
  refine ⟨fun h => ⟨by omega, by omega, ?_⟩, fun h => ⟨by omega, ?_⟩⟩
  · obtain ⟨y1, y2, _⟩ := bErr_zero (n3 (i + 1) (by omega))
    have hm : -100000000000 ≤ minV x (bd l (i + 1) 0) ∧ minV x (bd l (i + 1) 0) ≤ 100000000000 := by unfold minV; split <;> omega
    rw [wrapI (by omega)]
    unfold widS
    rw [if_pos (by omega)]
  · rw [wrapI (by omega)]
    unfold widS
    rw [if_neg (by omega)]

/-- How much of an amount is above a band's beginning. -/
def abvB (x : Int) (l : List SV) (i : Nat) : Int := if i < l.length then maxV 0 (x - bd l i 0) else 0
theorem wid_pos {x : Int} {l : List SV} (h : checkS l = 0) {i : Nat} (hi : i < l.length) : widS x l i = abvB x l i - abvB x l (i + 1) ∧ 0 ≤ abvB x l (i + 1) ∧ abvB x l (i + 1) ≤ abvB x l i := by
  obtain ⟨n1, n2, n3⟩ := check_zero h
  unfold widS abvB
  rw [if_pos hi]
  by_cases h1 : i + 1 < l.length
  · rw [if_pos h1, if_pos h1]
    obtain ⟨_, _, _, y4, _⟩ := bErr_zero (n3 (i + 1) h1)
    have y4 : bd l i 0 < bd l (i + 1) 0 := y4 (by omega)
    unfold maxV minV
    (repeat' split) <;> omega
  · rw [if_neg h1, if_neg h1]
    unfold maxV
    split <;> omega
theorem pos_in {x : Int} {l : List SV} (h : checkS l = 0) (hx : x ≤ 100000000000) : ∀ i, 0 ≤ abvB x l i ∧ abvB x l i ≤ abvB x l 0 ∧ abvB x l 0 ≤ 100000000000 ∧ abvB x l 0 = maxV 0 x := by
  obtain ⟨n1, n2, n3⟩ := check_zero h
  obtain ⟨_, _, z3, _⟩ := bErr_zero (n3 0 (by omega))
  have z3 := z3 rfl
  have h0 : abvB x l 0 = maxV 0 x := by unfold abvB; rw [if_pos (by omega), z3, Int.sub_zero]
  have h1 : 0 ≤ abvB x l 0 ∧ abvB x l 0 ≤ 100000000000 := by rw [h0]; unfold maxV; split <;> omega
  intro i
  induction i with
  | zero => exact ⟨h1.1, Int.le_refl _, h1.2, h0⟩
  | succ i ih =>
    by_cases hi : i < l.length
    · have := wid_pos (x := x) h hi
      exact ⟨by omega, by omega, h1.2, h0⟩
    · have : abvB x l (i + 1) = 0 := by unfold abvB; rw [if_neg (by omega)]
      exact ⟨by omega, by omega, h1.2, h0⟩
theorem rate_in {l : List SV} (h : checkS l = 0) {i k : Nat} (hi : i < l.length) (hk : k = 1 ∨ k = 2) : 0 ≤ bd l i k ∧ bd l i k ≤ 10000 := by
  obtain ⟨n1, n2, n3⟩ := check_zero h
  obtain ⟨_, _, _, _, z5, z6⟩ := bErr_zero (n3 i hi)
  rcases hk with rfl | rfl
  · exact z5
  · exact z6
theorem bSum_in {x : Int} {l : List SV} (h : checkS l = 0) {k : Nat} (hk : k = 1 ∨ k = 2) (hx : x ≤ 100000000000) : ∀ n, n ≤ l.length → 0 ≤ bSum k x l n ∧ bSum k x l n ≤ 10000 * (abvB x l 0 - abvB x l n)
  | 0, _ => by simp [bSum]
  | n + 1, hn => by
    have ih := bSum_in h hk hx n (by omega)
    obtain ⟨w1, w2, w3⟩ := wid_pos (x := x) h (i := n) (by omega)
    obtain ⟨r1, r2⟩ := rate_in h (i := n) (by omega) hk
    simp only [bSum]
    have hw : 0 ≤ widS x l n := by omega
    have m1 := Int.mul_nonneg hw r1
    have m2 := Int.mul_le_mul_of_nonneg_left r2 hw
    omega
theorem bSum_stay {x : Int} {l : List SV} (h : checkS l = 0) {k i : Nat} (hx : x ≤ 100000000000) (h0 : abvB x l i = 0) : ∀ j, i ≤ j → j ≤ l.length → bSum k x l j = bSum k x l i ∧ abvB x l j = 0
  | 0, hj, _ => by rw [Nat.le_zero.1 hj] at h0 ⊢; exact ⟨rfl, h0⟩
  | j + 1, hj, hl => by
    rcases Nat.lt_or_ge i (j + 1) with h1 | h1
    · obtain ⟨ih1, ih2⟩ := bSum_stay h (k := k) hx h0 j (by omega) (by omega)
      obtain ⟨w1, w2, w3⟩ := wid_pos (x := x) h (i := j) (by omega)
      have : widS x l j = 0 := by omega
      simp only [bSum]
      rw [this, Int.zero_mul, ih1]
      exact ⟨by omega, by omega⟩
    · rw [← show i = j + 1 by omega]; exact ⟨rfl, h0⟩
theorem bE_zero {x : Int} {l : List SV} (h : bE x l = 0) : checkS l = 0 ∧ rightB x = true := by
  unfold bE at h
  split at h
  · rename_i hc
    refine ⟨hc, ?_⟩
    cases hr : rightB x with
    | true => rfl
    | false => simp [chkE, hr] at h
  · contradiction
theorem bE_of {x : Int} {l : List SV} (h : checkS l = 0) (h' : rightB x = true) : bE x l = 0 := by simp [bE, h, h', chkE]
theorem bV_in {x : Int} {l : List SV} {k : Nat} (h : bE x l = 0) (hk : k = 1 ∨ k = 2) : 0 ≤ bV k x l ∧ bV k x l ≤ 10000 * maxV 0 x ∧ bV k x l ≤ 1000000000000000 ∧ bV k x l = bSum k x l l.length := by
  obtain ⟨h1, h2⟩ := bE_zero h
  have h3 := rightB_iff.1 h2
  have e : bV k x l = bSum k x l l.length := by unfold bV; rw [if_pos h]
  have h4 := bSum_in h1 hk (x := x) (by omega) l.length (by omega)
  have h5 := pos_in (x := x) h1 (by omega) l.length
  rw [e]
  refine ⟨h4.1, by omega, by omega, rfl⟩

theorem eachR_known : Known Try.prog 33 eachRC := by
  refine known1 (nt := 58) (An := fun (x, l) => (each_an x l 34 1)) (labs := [0]) (lit := false) (em := em_eachR) sh_eachR_le (by kernel_rfl) mixedT tyT_ok (.cons bcheck_known (.cons right_known (.cons width_known (.cons brate_known (.cons part_known .nil))))) Try.func33 (by kernel_rfl) (fun a => by obtain ⟨x, l⟩ := a; kernel_rfl) (fun a => by obtain ⟨x, l⟩ := a; rfl) (fun a ha => ?_)
  obtain ⟨x, l⟩ := a
  refine ⟨_, vc_eachR x l, ?_⟩
  have e1 : rightL [.int .i64 x] = rightB x := by simp [rightL, ints, elCell, SV.cells, SV.toInt]
  simp only [Int.reduceLE, Int.reduceLT, Int.reduceEq, Int.reduceNe, Nat.reduceLeDiff, Nat.reduceEqDiff, beq_eq_false_iff_ne, beq_iff_eq, decide_eq_decide, ne_eq, eq_self, true_and, and_true, and_self, and_false, false_and, Bool.not_true, Bool.not_false, Bool.false_eq_true, Bool.true_eq_false, false_implies, true_implies, implies_true, imp_false, not_true, not_false_eq_true, decide_eq_true_eq, decide_eq_false_iff_not, Bool.not_eq_true', Bool.not_eq_false', Bool.and_eq_true, Classical.not_not, decide_true, decide_false, Bool.and_true, Bool.true_and, if_true, if_false, Ob_iff]
  simp only [bd_eq, e1]
  have bad : bE x l ≠ 0 → bV 1 x l = 0 := fun h => by unfold bV; rw [if_neg h]
  have stop : ∀ i, i < l.length → checkS l = 0 → rightB x = true → x ≤ bd l i 0 → bSum 1 x l i = bV 1 x l ∧ 0 = bE x l := fun i hi hc hr hx => by
    have h3 := rightB_iff.1 hr
    have hE := bE_of hc hr
    have h0 : abvB x l i = 0 := by unfold abvB; rw [if_pos hi]; unfold maxV; split <;> omega
    have := (bSum_stay hc (k := 1) (x := x) (by omega) h0 l.length (by omega) (by omega)).1
    exact ⟨by unfold bV; rw [if_pos hE, this], hE.symm⟩
  have go : ∀ i, i < l.length → checkS l = 0 → rightB x = true → partE (widS x l i) (bd l i 1) = 0 ∧ IntKind.i64.wrap (bSum 1 x l i + partV (widS x l i) (bd l i 1)) = bSum 1 x l (i + 1) := fun i hi hc hr => by
    have h3 := rightB_iff.1 hr
    obtain ⟨w1, w2, w3⟩ := wid_pos (x := x) hc hi
    have p1 := pos_in (x := x) hc (by omega) i
    obtain ⟨r1, r2⟩ := rate_in hc hi (k := 1) (by omega)
    have q1 : rightB (widS x l i) = true := rightB_iff.2 (by omega)
    have q2 : rateB (bd l i 1) = true := rateB_iff.2 ⟨r1, r2⟩
    have q3 : partE (widS x l i) (bd l i 1) = 0 := by simp [partE, q1, q2]
    refine ⟨q3, ?_⟩
    have q4 : partV (widS x l i) (bd l i 1) = widS x l i * bd l i 1 := by simp [partV, q3]
    have b1 := bSum_in hc (k := 1) (by omega) (x := x) (by omega) (i + 1) (by omega)
    have b2 := pos_in (x := x) hc (by omega) (i + 1)
    rw [q4, show bSum 1 x l i + widS x l i * bd l i 1 = bSum 1 x l (i + 1) from rfl, wrapI (by omega)]
  refine ⟨⟨fun h => ?_, fun hc => ⟨fun h => ?_, fun hr => ⟨fun h => ?_, fun h => ⟨by omega, fun hx => ?_, fun hx => ⟨?_, by omega, fun h2 => ?_, fun h2 => ?_⟩⟩⟩⟩⟩, fun i ⟨i1, i2, i3⟩ => ⟨fun h => ?_, fun h => ⟨by omega, fun hx => ?_, fun hx => ⟨?_, by omega, fun h2 => ?_, fun h2 => ?_⟩⟩⟩⟩
  · have : bE x l = checkS l := by unfold bE; rw [if_neg h]
    exact ⟨(bad (by omega)).symm, this.symm⟩
  · have : bE x l = 10 := by simp [bE, hc, chkE, h]
    exact ⟨(bad (by omega)).symm, this.symm⟩
  · have := (check_zero hc).1; omega
  · exact stop 0 (by omega) hc hr hx
  · exact ⟨by omega, (check_zero hc).2.1, hr, hc⟩
  · exact absurd (go 0 (by omega) hc hr).1 h2
  · exact ⟨1, (go 0 (by omega) hc hr).2, rfl, by omega, hc, hr⟩
  · have : i = l.length := by omega
    have hE := bE_of i2 i3
    exact ⟨by unfold bV; rw [if_pos hE, this], hE.symm⟩
  · exact stop i (by omega) i2 i3 hx
  · exact ⟨by omega, by omega, (check_zero i2).2.1, i3, i2⟩
  · exact absurd (go i (by omega) i2 i3).1 h2
  · refine ⟨i + 1, (go i (by omega) i2 i3).2, ?_, ⟨by omega, i2, i3⟩, by omega⟩
    have := (check_zero i2).2.1
    rw [wrapI (by omega)]; rfl

theorem eachE_known : Known Try.prog 33 eachEC := by
  refine known1 (nt := 58) (An := fun (x, l) => (each_an x l 35 2)) (labs := [0]) (lit := false) (em := em_eachE) sh_eachE_le (by kernel_rfl) mixedT tyT_ok (.cons bcheck_known (.cons right_known (.cons width_known (.cons bemp_known (.cons part_known .nil))))) Try.func33 (by kernel_rfl) (fun a => by obtain ⟨x, l⟩ := a; kernel_rfl) (fun a => by obtain ⟨x, l⟩ := a; rfl) (fun a ha => ?_)
  obtain ⟨x, l⟩ := a
  refine ⟨_, vc_eachE x l, ?_⟩
  have e1 : rightL [.int .i64 x] = rightB x := by simp [rightL, ints, elCell, SV.cells, SV.toInt]
  simp only [Int.reduceLE, Int.reduceLT, Int.reduceEq, Int.reduceNe, Nat.reduceLeDiff, Nat.reduceEqDiff, beq_eq_false_iff_ne, beq_iff_eq, decide_eq_decide, ne_eq, eq_self, true_and, and_true, and_self, and_false, false_and, Bool.not_true, Bool.not_false, Bool.false_eq_true, Bool.true_eq_false, false_implies, true_implies, implies_true, imp_false, not_true, not_false_eq_true, decide_eq_true_eq, decide_eq_false_iff_not, Bool.not_eq_true', Bool.not_eq_false', Bool.and_eq_true, Classical.not_not, decide_true, decide_false, Bool.and_true, Bool.true_and, if_true, if_false, Ob_iff]
  simp only [bd_eq, e1]
  have bad : bE x l ≠ 0 → bV 2 x l = 0 := fun h => by unfold bV; rw [if_neg h]
  have stop : ∀ i, i < l.length → checkS l = 0 → rightB x = true → x ≤ bd l i 0 → bSum 2 x l i = bV 2 x l ∧ 0 = bE x l := fun i hi hc hr hx => by
    have h3 := rightB_iff.1 hr
    have hE := bE_of hc hr
    have h0 : abvB x l i = 0 := by unfold abvB; rw [if_pos hi]; unfold maxV; split <;> omega
    have := (bSum_stay hc (k := 2) (x := x) (by omega) h0 l.length (by omega) (by omega)).1
    exact ⟨by unfold bV; rw [if_pos hE, this], hE.symm⟩
  have go : ∀ i, i < l.length → checkS l = 0 → rightB x = true → partE (widS x l i) (bd l i 2) = 0 ∧ IntKind.i64.wrap (bSum 2 x l i + partV (widS x l i) (bd l i 2)) = bSum 2 x l (i + 1) := fun i hi hc hr => by
    have h3 := rightB_iff.1 hr
    obtain ⟨w1, w2, w3⟩ := wid_pos (x := x) hc hi
    have p1 := pos_in (x := x) hc (by omega) i
    obtain ⟨r1, r2⟩ := rate_in hc hi (k := 2) (by omega)
    have q1 : rightB (widS x l i) = true := rightB_iff.2 (by omega)
    have q2 : rateB (bd l i 2) = true := rateB_iff.2 ⟨r1, r2⟩
    have q3 : partE (widS x l i) (bd l i 2) = 0 := by simp [partE, q1, q2]
    refine ⟨q3, ?_⟩
    have q4 : partV (widS x l i) (bd l i 2) = widS x l i * bd l i 2 := by simp [partV, q3]
    have b1 := bSum_in hc (k := 2) (by omega) (x := x) (by omega) (i + 1) (by omega)
    have b2 := pos_in (x := x) hc (by omega) (i + 1)
    rw [q4, show bSum 2 x l i + widS x l i * bd l i 2 = bSum 2 x l (i + 1) from rfl, wrapI (by omega)]
  refine ⟨⟨fun h => ?_, fun hc => ⟨fun h => ?_, fun hr => ⟨fun h => ?_, fun h => ⟨by omega, fun hx => ?_, fun hx => ⟨?_, by omega, fun h2 => ?_, fun h2 => ?_⟩⟩⟩⟩⟩, fun i ⟨i1, i2, i3⟩ => ⟨fun h => ?_, fun h => ⟨by omega, fun hx => ?_, fun hx => ⟨?_, by omega, fun h2 => ?_, fun h2 => ?_⟩⟩⟩⟩
  · have : bE x l = checkS l := by unfold bE; rw [if_neg h]
    exact ⟨(bad (by omega)).symm, this.symm⟩
  · have : bE x l = 10 := by simp [bE, hc, chkE, h]
    exact ⟨(bad (by omega)).symm, this.symm⟩
  · have := (check_zero hc).1; omega
  · exact stop 0 (by omega) hc hr hx
  · exact ⟨by omega, (check_zero hc).2.1, hr, hc⟩
  · exact absurd (go 0 (by omega) hc hr).1 h2
  · exact ⟨1, (go 0 (by omega) hc hr).2, rfl, by omega, hc, hr⟩
  · have : i = l.length := by omega
    have hE := bE_of i2 i3
    exact ⟨by unfold bV; rw [if_pos hE, this], hE.symm⟩
  · exact stop i (by omega) i2 i3 hx
  · exact ⟨by omega, by omega, (check_zero i2).2.1, i3, i2⟩
  · exact absurd (go i (by omega) i2 i3).1 h2
  · refine ⟨i + 1, (go i (by omega) i2 i3).2, ?_, ⟨by omega, i2, i3⟩, by omega⟩
    have := (check_zero i2).2.1
    rw [wrapI (by omega)]; rfl

theorem each_known : Known Try.prog 33 eachC := known_or eachR_known eachE_known

theorem bexact_known : Known Try.prog 13 bexactC := by
  refine known1 (nt := 11) (An := fun (x, l) => noAnn) (labs := []) (lit := false) (em := em_bexact) sh_bexact_le (by kernel_rfl) mixedT tyT_ok (.cons each_known .nil) Try.func13 (by kernel_rfl) (fun a => by obtain ⟨x, l⟩ := a; kernel_rfl) (fun a => by obtain ⟨x, l⟩ := a; rfl) (fun a ha => ?_)
  obtain ⟨x, l⟩ := a
  refine ⟨_, vc_bexact x l, ?_⟩
  repeat' first | exact trivial | with_reducible rfl | apply And.intro | apply Ob.mk | intro _

theorem bemployer_known : Known Try.prog 14 bemployerC := by
  refine known1 (nt := 11) (An := fun (x, l) => noAnn) (labs := []) (lit := false) (em := em_bemployer) sh_bemployer_le (by kernel_rfl) mixedT tyT_ok (.cons each_known .nil) Try.func14 (by kernel_rfl) (fun a => by obtain ⟨x, l⟩ := a; kernel_rfl) (fun a => by obtain ⟨x, l⟩ := a; rfl) (fun a ha => ?_)
  obtain ⟨x, l⟩ := a
  refine ⟨_, vc_bemployer x l, ?_⟩
  repeat' first | exact trivial | with_reducible rfl | apply And.intro | apply Ob.mk | intro _

theorem bbetween_known : Known Try.prog 12 bbetweenC := by
  refine known1 (nt := 32) (An := fun (x, y, l) => noAnn) (labs := []) (lit := false) (em := em_bbetween) sh_bbetween_le (by kernel_rfl) mixedT tyT_ok (.cons bexact_known .nil) Try.func12 (by kernel_rfl) (fun a => by obtain ⟨x, y, l⟩ := a; kernel_rfl) (fun a => by obtain ⟨x, y, l⟩ := a; rfl) (fun a ha => ?_)
  obtain ⟨x, y, l⟩ := a
  refine ⟨_, vc_bbetween x y l, ?_⟩
  simp only [Int.reduceLE, Int.reduceLT, Int.reduceEq, Int.reduceNe, Nat.reduceLeDiff, Nat.reduceEqDiff, beq_eq_false_iff_ne, beq_iff_eq, decide_eq_decide, ne_eq, eq_self, true_and, and_true, and_self, and_false, false_and, Bool.not_true, Bool.not_false, Bool.false_eq_true, Bool.true_eq_false, false_implies, true_implies, implies_true, imp_false, not_true, not_false_eq_true, decide_eq_true_eq, decide_eq_false_iff_not, Bool.not_eq_true', Bool.not_eq_false', Bool.and_eq_true, Classical.not_not, decide_true, decide_false, Bool.and_true, Bool.true_and, if_true, if_false, Ob_iff]
  refine ⟨fun h => ?_, fun h => ⟨fun h2 => ?_, fun h2 => ?_⟩⟩
  · have : btE x y l = bE x l := by unfold btE; rw [if_neg h]
    exact ⟨by unfold btV; rw [if_neg (by omega)], this.symm⟩
  · have : btE x y l = bE y l := by unfold btE; rw [if_pos h]
    exact ⟨by unfold btV; rw [if_neg (by omega)], this.symm⟩
  · have : btE x y l = 0 := by unfold btE; rw [if_pos h, h2]
    have b1 := bV_in (k := 1) h (.inl rfl)
    have b2 := bV_in (k := 1) h2 (.inl rfl)
    rw [wrapI (by omega)]
    exact ⟨by unfold btV; rw [if_pos this], this.symm⟩

end Go.Rx
