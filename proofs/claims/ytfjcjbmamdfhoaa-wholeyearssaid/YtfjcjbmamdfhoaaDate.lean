/- Days: leap years, months' lengths, numbers, so many days and months on. -/
import Derived.Test.YtfjcjbmamdfhoaaSb
namespace Go.Rx
open Go.Proofs
set_option linter.unusedSimpArgs false
set_option linter.unusedVariables false

def leapS (y : Int) : Bool := decide (y % 4 = 0) && (!decide (y % 100 = 0) || decide (y % 400 = 0))
def lastS (y m : Int) : Int :=
  if y < 1900 ∨ 2199 < y then 0
  else if m = 1 ∨ m = 3 ∨ m = 5 ∨ m = 7 ∨ m = 8 ∨ m = 10 ∨ m = 12 then 31
  else if m = 4 ∨ m = 6 ∨ m = 9 ∨ m = 11 then 30
  else if m = 2 then (if leapS y = true then 29 else 28) else 0
def longS (y : Int) : Int := if leapS y = true then 366 else 365
def monthS (y m : Int) : Int :=
  if m < 1 ∨ 12 < m ∨ y < 1900 ∨ 2199 < y then 0
  else [31, longS y - 337, 31, 30, 31, 30, 31, 31, 30, 31, 30, 31].getD (m - 1).toNat 0
def rightS (a : Int × Int × Int) : Bool := decide (1 ≤ a.2.2) && decide (a.2.2 ≤ lastS a.1 a.2.1)
def dSV (a : Int × Int × Int) : SV := .agg [.int .i64 a.1, .int .i64 a.2.1, .int .i64 a.2.2]
def leapsS (y : Int) : Int := (y - 1) / 4 - (y - 1) / 100 + (y - 1) / 400
def beforeS (m : Int) : Int := if 2 < m then (153 * (m - 3) + 2) / 5 + 59 else 31 * (m - 1)
def yearsS (y : Int) : Int := 365 * (y - 1900) + leapsS y - leapsS 1900
def monthsS (y m : Int) : Int := beforeS m + (if 2 < m ∧ leapS y = true then 1 else 0)
def numS (a : Int × Int × Int) : Int := yearsS a.1 + monthsS a.1 a.2.1 + a.2.2 - 1
def twoS (n : Int) : List UInt8 := [UInt8.ofNat (48 + n / 10 % 10).toNat, UInt8.ofNat (48 + n % 10).toNat]
def textS (a : Int × Int × Int) : List UInt8 := if rightS a = true then twoS (a.1 / 100) ++ twoS a.1 ++ [45] ++ twoS a.2.1 ++ [45] ++ twoS a.2.2 else []
def boxD (c : Nat) (a : Int × Int × Int) : Nat × Chunk := (c, .box 23 [.int .i64 a.1, .int .i64 a.2.1, .int .i64 a.2.2])
def rnumAn (a : Int × Int × Int) : Nat → Option Ann
  | 0 => some ⟨Int, fun y => ⟨[(1, .ptr 1 0), (3, .int .i64 (a.2.2 - 1 + yearsS y)), (4, .int .i64 y)], [boxD 1 a]⟩, fun y => 1900 ≤ y ∧ y ≤ a.1, fun y => (a.1 - y).toNat, [1, 3, 4], [1], []⟩
  | 2 => some ⟨Int, fun m => ⟨[(1, .ptr 1 0), (3, .int .i64 (a.2.2 - 1 + yearsS a.1 + monthsS a.1 m)), (5, .int .i64 m)], [boxD 1 a]⟩, fun m => 1 ≤ m ∧ m ≤ a.2.1, fun m => (a.2.1 - m).toNat, [1, 3, 5], [1], []⟩
  | _ => none
open Classical in
/-- The day of a number. -/
noncomputable def ofS (n : Int) : Int × Int × Int := if h : ∃ a, rightS a = true ∧ numS a = n then h.choose else (0, 0, 0)
def thereS (n : Int) : Bool := decide (0 ≤ n) && decide (n < 109573)
def inR (n : Int) : Prop := -9223372036854775808 ≤ n ∧ n ≤ 9223372036854775807
def zeroD (c : Nat) : Nat × Chunk := (c, .box 23 [.int .i64 0, .int .i64 0, .int .i64 0])
def inYear (n y : Int) : Prop := 1900 ≤ y ∧ y ≤ 2199 ∧ yearsS y ≤ n ∧ n < yearsS (y + 1)
def inMonth (n y m : Int) : Prop := 1 ≤ m ∧ m ≤ 12 ∧ monthsS y m ≤ n - yearsS y
def ofAn (n : Int) : Nat → Option Ann
  | 0 => some ⟨Int, fun y => ⟨[(0, .int .i64 n), (2, .ptr 2 0), (4, .ptr 4 0)], [zeroD 2, boxD 4 (y, 1, 1)]⟩, fun y => 1900 ≤ y ∧ y ≤ 2199 ∧ yearsS y ≤ n, fun y => (2199 - y).toNat, [0, 2, 4], [2, 4], []⟩
  | 2 => some ⟨Int × Int, fun a => ⟨[(2, .ptr 2 0), (4, .ptr 4 0), (9, .int .i64 (n - yearsS a.1 - monthsS a.1 a.2))], [zeroD 2, boxD 4 (a.1, a.2, 1)]⟩, fun a => inYear n a.1 ∧ inMonth n a.1 a.2, fun a => (12 - a.2).toNat, [2, 4, 9], [2, 4], []⟩
  | _ => none
def rofAn (n : Int) : Nat → Option Ann
  | 0 => some ⟨Int, fun y => ⟨[(0, .int .i64 (n - yearsS y)), (2, .ptr 2 0), (4, .int .i64 y)], [zeroD 2]⟩, fun y => 1900 ≤ y ∧ y ≤ 2200 ∧ yearsS y ≤ n, fun y => (2200 - y).toNat, [0, 2, 4], [2], []⟩
  | 2 => some ⟨Int × Int, fun a => ⟨[(0, .int .i64 (n - yearsS a.1 - monthsS a.1 a.2)), (2, .ptr 2 0), (4, .int .i64 a.1), (5, .int .i64 a.2)], [zeroD 2]⟩, fun a => inYear n a.1 ∧ inMonth n a.1 a.2, fun a => (12 - a.2).toNat, [0, 2, 4, 5], [2], []⟩
  | _ => none
def monthsOn (a : (Int × Int × Int) × Int) : Int × Int × Int :=
  let n := 12 * a.1.1 + a.1.2.1 - 1 + a.2
  (n / 12, n % 12 + 1, min a.1.2.2 (lastS (n / 12) (n % 12 + 1)))
def monthsOk (a : (Int × Int × Int) × Int) : Bool := rightS a.1 && decide (-3600 ≤ a.2) && decide (a.2 ≤ 3600) && rightS (monthsOn a)
def betweenOk (a : (Int × Int × Int) × (Int × Int × Int)) : Bool := rightS a.1 && rightS a.2
def lexC (a b : Int × Int × Int) : Int :=
  if a.1 < b.1 then -1 else if b.1 < a.1 then 1 else if a.2.1 < b.2.1 then -1 else if b.2.1 < a.2.1 then 1 else if a.2.2 < b.2.2 then -1 else if b.2.2 < a.2.2 then 1 else 0
def addOk (a : (Int × Int × Int) × Int) : Bool := rightS a.1 && decide (-109573 ≤ a.2) && decide (a.2 ≤ 109573) && thereS (numS a.1 + a.2)
def workS (a : Int × Int × Int) : Bool := rightS a && decide (numS a % 7 < 5)
/-- The month's number, from year 0 on. -/
def monthNo (a : (Int × Int × Int) × Int) : Int := 12 * a.1.1 + a.1.2.1 - 1 + a.2
def inSpan (y m : Int) : Prop := 1899 ≤ y ∧ y ≤ 2200 ∧ 1 ≤ m ∧ m ≤ 12
def rmonthsOk (a : (Int × Int × Int) × Int) : Bool := rightS a.1 && decide (22800 ≤ monthNo a) && decide (monthNo a < 26400)
def rmAn (a : (Int × Int × Int) × Int) : Nat → Option Ann
  | 0 => some ⟨Int × Int × Int, fun x => ⟨[(1, .int .i64 x.1), (2, .ptr 2 0), (4, .ptr 4 0), (6, .int .i64 x.2.1), (7, .int .i64 x.2.2)], [boxD 2 a.1, zeroD 4]⟩,
      fun x => inSpan x.2.1 x.2.2 ∧ 12 * x.2.1 + x.2.2 - 1 + x.1 = monthNo a ∧ (a.2 ≤ 0 → x.1 = a.2) ∧ (0 ≤ a.2 → 0 ≤ x.1 ∧ x.1 ≤ a.2) ∧ 1900 ≤ x.2.1 ∧ (x.2.1 = 2200 → x.2.2 = 1), fun x => x.1.toNat, [1, 2, 4, 6, 7], [2, 4], []⟩
  | 2 => some ⟨Int × Int × Int, fun x => ⟨[(1, .int .i64 x.1), (2, .ptr 2 0), (4, .ptr 4 0), (6, .int .i64 x.2.1), (7, .int .i64 x.2.2)], [boxD 2 a.1, zeroD 4]⟩,
      fun x => inSpan x.2.1 x.2.2 ∧ 12 * x.2.1 + x.2.2 - 1 + x.1 = monthNo a ∧ (x.1 ≤ 0 ∨ (0 < x.1 ∧ x.2.1 = 2200 ∧ x.2.2 = 1)) ∧ (x.2.1 = 2200 → x.2.2 = 1 ∧ 0 ≤ x.1) ∧ (x.2.1 = 1899 → x.2.2 = 12) ∧ (x.1 < 0 → a.2 ≤ x.1), fun x => (0 - x.1).toNat, [1, 2, 4, 6, 7], [2, 4], []⟩
  | 4 => some ⟨Int × Int × Int, fun x => ⟨[(2, .ptr 2 0), (4, .ptr 4 0), (6, .int .i64 x.2.1), (7, .int .i64 x.2.2), (8, .int .i64 x.1)], [boxD 2 a.1, zeroD 4]⟩,
      fun x => inSpan x.2.1 x.2.2 ∧ x.1 ≤ a.1.2.2 ∧ min a.1.2.2 28 ≤ x.1 ∧ min a.1.2.2 (lastS x.2.1 x.2.2) ≤ x.1 ∧
        ((22800 ≤ monthNo a ∧ monthNo a < 26400 ∧ x.2.1 = monthNo a / 12 ∧ x.2.2 = monthNo a % 12 + 1) ∨ (monthNo a < 22800 ∧ x.2.1 = 1899 ∧ x.2.2 = 12) ∨ (26400 ≤ monthNo a ∧ x.2.1 = 2200 ∧ x.2.2 = 1)), fun x => x.1.toNat, [2, 4, 6, 7, 8], [2, 4], []⟩
  | _ => none
def rmRes (a : (Int × Int × Int) × Int) : Int × Int × Int := if rmonthsOk a = true then monthsOn a else if rightS a.1 = true then (if monthNo a < 22800 then (1899, 12, min a.1.2.2 28) else (2200, 1, min a.1.2.2 28)) else (0, 0, 0)

def sh_dleap : List SV → Option (Int)
  | [.int .i64 y] => some y
  | _ => none
def em_dleap : Int → List SV := fun y => [.int .i64 y]
theorem sh_dleap_le : ∀ us a, sh_dleap us = some a → leL us (em_dleap a) := by
  intro us a h
  unfold sh_dleap at h
  split at h
  · cases h; exact (.cons (.refl _) .nil)
  · cases h
def dleapC : Con := conOf sh_dleap (fun _ => none) (fun y => .bool (leapS y))
set_option maxRecDepth 100000 in
theorem vc_dleap (y : Int) : (wpF ⟨16, tyT, [], false⟩ (noAnn) [] Try.f47 (em_dleap y) (.bool (leapS y))) = ((Ob (((4 : Int) ≠ (0 : Int))) ∧ (((decide (y.tmod (4 : Int) = (0 : Int)) = true) → (Ob (((100 : Int) ≠ (0 : Int))) ∧ ((((!decide (y.tmod (100 : Int) = (0 : Int))) = true) → ((leapS y = true) ∧ (True))) ∧ (((!decide (y.tmod (100 : Int) = (0 : Int))) = false) → (Ob (((400 : Int) ≠ (0 : Int))) ∧ ((decide (y.tmod (400 : Int) = (0 : Int)) = leapS y) ∧ (True))))))) ∧ ((decide (y.tmod (4 : Int) = (0 : Int)) = false) → ((leapS y = false) ∧ (True)))))) := by kernel_rfl
def sh_dlong : List SV → Option (Int)
  | [.int .i64 y] => some y
  | _ => none
def em_dlong : Int → List SV := fun y => [.int .i64 y]
theorem sh_dlong_le : ∀ us a, sh_dlong us = some a → leL us (em_dlong a) := by
  intro us a h
  unfold sh_dlong at h
  split at h
  · cases h; exact (.cons (.refl _) .nil)
  · cases h
def dlongC : Con := conOf sh_dlong (fun _ => none) (fun y => .int .i64 (longS y))
set_option maxRecDepth 100000 in
theorem vc_dlong (y : Int) : (wpF ⟨16, tyT, [], false⟩ (noAnn) [] Try.f37 (em_dlong y) (.int .i64 (longS y))) = ((Ob (((400 : Int) ≠ (0 : Int))) ∧ (((decide (y.tmod (400 : Int) = (0 : Int)) = true) → (((366 : Int) = longS y) ∧ (True))) ∧ ((decide (y.tmod (400 : Int) = (0 : Int)) = false) → (Ob (((4 : Int) ≠ (0 : Int))) ∧ (((decide (y.tmod (4 : Int) = (0 : Int)) = true) → (Ob (((100 : Int) ≠ (0 : Int))) ∧ ((((!decide (y.tmod (100 : Int) = (0 : Int))) = true) → (((366 : Int) = longS y) ∧ (True))) ∧ (((!decide (y.tmod (100 : Int) = (0 : Int))) = false) → (((365 : Int) = longS y) ∧ (True)))))) ∧ ((decide (y.tmod (4 : Int) = (0 : Int)) = false) → (((365 : Int) = longS y) ∧ (True))))))))) := by kernel_rfl
def sh_dlast : List SV → Option (Int × Int)
  | [.int .i64 y, .int .i64 m] => some (y, m)
  | _ => none
def em_dlast : Int × Int → List SV := fun (y, m) => [.int .i64 y, .int .i64 m]
theorem sh_dlast_le : ∀ us a, sh_dlast us = some a → leL us (em_dlast a) := by
  intro us a h
  unfold sh_dlast at h
  split at h
  · cases h; exact (.cons (.refl _) (.cons (.refl _) .nil))
  · cases h
def dlastC : Con := conOf sh_dlast (fun _ => none) (fun (y, m) => .int .i64 (lastS y m))
set_option maxRecDepth 100000 in
theorem vc_dlast (y : Int) (m : Int) : (wpF ⟨29, tyT, [(47, dleapC)], false⟩ (noAnn) [] Try.f48 (em_dlast (y, m)) (.int .i64 (lastS y m))) = ((((decide (y < (1900 : Int)) = true) → (((0 : Int) = lastS y m) ∧ (True))) ∧ ((decide (y < (1900 : Int)) = false) → (((decide ((2199 : Int) < y) = true) → (((0 : Int) = lastS y m) ∧ (True))) ∧ ((decide ((2199 : Int) < y) = false) → (((decide (m = (1 : Int)) = true) → (((31 : Int) = lastS y m) ∧ (True))) ∧ ((decide (m = (1 : Int)) = false) → (((decide (m = (3 : Int)) = true) → (((31 : Int) = lastS y m) ∧ (True))) ∧ ((decide (m = (3 : Int)) = false) → (((decide (m = (5 : Int)) = true) → (((31 : Int) = lastS y m) ∧ (True))) ∧ ((decide (m = (5 : Int)) = false) → (((decide (m = (7 : Int)) = true) → (((31 : Int) = lastS y m) ∧ (True))) ∧ ((decide (m = (7 : Int)) = false) → (((decide (m = (8 : Int)) = true) → (((31 : Int) = lastS y m) ∧ (True))) ∧ ((decide (m = (8 : Int)) = false) → (((decide (m = (10 : Int)) = true) → (((31 : Int) = lastS y m) ∧ (True))) ∧ ((decide (m = (10 : Int)) = false) → (((decide (m = (12 : Int)) = true) → (((31 : Int) = lastS y m) ∧ (True))) ∧ ((decide (m = (12 : Int)) = false) → (((decide (m = (4 : Int)) = true) → (((30 : Int) = lastS y m) ∧ (True))) ∧ ((decide (m = (4 : Int)) = false) → (((decide (m = (6 : Int)) = true) → (((30 : Int) = lastS y m) ∧ (True))) ∧ ((decide (m = (6 : Int)) = false) → (((decide (m = (9 : Int)) = true) → (((30 : Int) = lastS y m) ∧ (True))) ∧ ((decide (m = (9 : Int)) = false) → (((decide (m = (11 : Int)) = true) → (((30 : Int) = lastS y m) ∧ (True))) ∧ ((decide (m = (11 : Int)) = false) → (((decide (m = (2 : Int)) = true) → (((leapS y = true) → (((29 : Int) = lastS y m) ∧ (True))) ∧ ((leapS y = false) → (((28 : Int) = lastS y m) ∧ (True))))) ∧ ((decide (m = (2 : Int)) = false) → (((0 : Int) = lastS y m) ∧ (True))))))))))))))))))))))))))))))) := by kernel_rfl
def sh_dmonth : List SV → Option (Int × Int)
  | [.int .i64 y, .int .i64 m] => some (y, m)
  | _ => none
def em_dmonth : Int × Int → List SV := fun (y, m) => [.int .i64 y, .int .i64 m]
theorem sh_dmonth_le : ∀ us a, sh_dmonth us = some a → leL us (em_dmonth a) := by
  intro us a h
  unfold sh_dmonth at h
  split at h
  · cases h; exact (.cons (.refl _) (.cons (.refl _) .nil))
  · cases h
def dmonthC : Con := conOf sh_dmonth (fun _ => none) (fun (y, m) => .int .i64 (monthS y m))
set_option maxRecDepth 100000 in
theorem vc_dmonth (y : Int) (m : Int) : (wpF ⟨29, tyT, [(37, dlongC)], false⟩ (noAnn) [] Try.f23 (em_dmonth (y, m)) (.int .i64 (monthS y m))) = ((((decide (m < (1 : Int)) = true) → (((0 : Int) = monthS y m) ∧ (True))) ∧ ((decide (m < (1 : Int)) = false) → (((decide ((12 : Int) < m) = true) → (((0 : Int) = monthS y m) ∧ (True))) ∧ ((decide ((12 : Int) < m) = false) → (((decide (y < (1900 : Int)) = true) → (((0 : Int) = monthS y m) ∧ (True))) ∧ ((decide (y < (1900 : Int)) = false) → (((decide ((2199 : Int) < y) = true) → (((0 : Int) = monthS y m) ∧ (True))) ∧ ((decide ((2199 : Int) < y) = false) → (Ob ((((0 : Int) ≤ IntKind.i64.wrap (m - (1 : Int))) ∧ (IntKind.i64.wrap (m - (1 : Int)) < (↑(12 : Nat) : Int)))) ∧ (Ob (((IntKind.i64.wrap (m - (1 : Int))).toNat < (12 : Nat))) ∧ (((elCell [SV.int IntKind.i64 (31 : Int), SV.int IntKind.i64 (IntKind.i64.wrap (longS y - (337 : Int))), SV.int IntKind.i64 (31 : Int), SV.int IntKind.i64 (30 : Int), SV.int IntKind.i64 (31 : Int), SV.int IntKind.i64 (30 : Int), SV.int IntKind.i64 (31 : Int), SV.int IntKind.i64 (31 : Int), SV.int IntKind.i64 (30 : Int), SV.int IntKind.i64 (31 : Int), SV.int IntKind.i64 (30 : Int), SV.int IntKind.i64 (31 : Int)] (IntKind.i64.wrap (m - (1 : Int))).toNat (0 : Nat)).toInt = monthS y m) ∧ (True))))))))))))) := by kernel_rfl
def sh_dright : List SV → Option (Int × Int × Int)
  | [.agg [.int .i64 y, .int .i64 m, .int .i64 d]] => some (y, m, d)
  | _ => none
def em_dright : Int × Int × Int → List SV := fun (y, m, d) => [.agg [.int .i64 y, .int .i64 m, .int .i64 d]]
theorem sh_dright_le : ∀ us a, sh_dright us = some a → leL us (em_dright a) := by
  intro us a h
  unfold sh_dright at h
  split at h
  · cases h; exact (.cons (.agg (.cons (.refl _) (.cons (.refl _) (.cons (.refl _) .nil)))) .nil)
  · cases h
def drightC : Con := conOf sh_dright (fun _ => none) (fun (y, m, d) => .bool (rightS (y, m, d)))
set_option maxRecDepth 100000 in
theorem vc_dright (y : Int) (m : Int) (d : Int) : (wpF ⟨16, tyT, [(48, dlastC)], false⟩ (noAnn) [] Try.f44 (em_dright (y, m, d)) (.bool (rightS (y, m, d)))) = ((((decide ((1 : Int) ≤ d) = true) → ((decide (d ≤ lastS y m) = rightS (y, m, d)) ∧ (True))) ∧ ((decide ((1 : Int) ≤ d) = false) → ((rightS (y, m, d) = false) ∧ (True))))) := by kernel_rfl
def sh_drright : List SV → Option (Int × Int × Int)
  | [.agg [.int .i64 y, .int .i64 m, .int .i64 d]] => some (y, m, d)
  | _ => none
def em_drright : Int × Int × Int → List SV := fun (y, m, d) => [.agg [.int .i64 y, .int .i64 m, .int .i64 d]]
theorem sh_drright_le : ∀ us a, sh_drright us = some a → leL us (em_drright a) := by
  intro us a h
  unfold sh_drright at h
  split at h
  · cases h; exact (.cons (.agg (.cons (.refl _) (.cons (.refl _) (.cons (.refl _) .nil)))) .nil)
  · cases h
def drrightC : Con := conOf sh_drright (fun _ => none) (fun (y, m, d) => .bool (rightS (y, m, d)))
set_option maxRecDepth 100000 in
theorem vc_drright (y : Int) (m : Int) (d : Int) : (wpF ⟨16, tyT, [(23, dmonthC)], false⟩ (noAnn) [] Try.f36 (em_drright (y, m, d)) (.bool (rightS (y, m, d)))) = ((((decide ((1 : Int) ≤ d) = true) → ((decide (d ≤ monthS y m) = rightS (y, m, d)) ∧ (True))) ∧ ((decide ((1 : Int) ≤ d) = false) → ((rightS (y, m, d) = false) ∧ (True))))) := by kernel_rfl
def sh_dleaps : List SV → Option (Int)
  | [.int .i64 y] => some y
  | _ => none
def em_dleaps : Int → List SV := fun y => [.int .i64 y]
theorem sh_dleaps_le : ∀ us a, sh_dleaps us = some a → leL us (em_dleaps a) := by
  intro us a h
  unfold sh_dleaps at h
  split at h
  · cases h; exact (.cons (.refl _) .nil)
  · cases h
def dleapsC : Con := conOf sh_dleaps (fun y => some (Ob (1900 ≤ y ∧ y ≤ 2200))) (fun y => .int .i64 (leapsS y))
set_option maxRecDepth 100000 in
theorem vc_dleaps (y : Int) : (wpF ⟨14, tyT, [], false⟩ (noAnn) [] Try.f45 (em_dleaps y) (.int .i64 (leapsS y))) = ((Ob (((4 : Int) ≠ (0 : Int))) ∧ (Ob (((100 : Int) ≠ (0 : Int))) ∧ (Ob (((400 : Int) ≠ (0 : Int))) ∧ ((IntKind.i64.wrap (IntKind.i64.wrap (IntKind.i64.wrap ((IntKind.i64.wrap (y - (1 : Int))).tdiv (4 : Int)) - IntKind.i64.wrap ((IntKind.i64.wrap (y - (1 : Int))).tdiv (100 : Int))) + IntKind.i64.wrap ((IntKind.i64.wrap (y - (1 : Int))).tdiv (400 : Int))) = leapsS y) ∧ (True)))))) := by kernel_rfl
def sh_dbefore : List SV → Option (Int)
  | [.int .i64 y] => some y
  | _ => none
def em_dbefore : Int → List SV := fun y => [.int .i64 y]
theorem sh_dbefore_le : ∀ us a, sh_dbefore us = some a → leL us (em_dbefore a) := by
  intro us a h
  unfold sh_dbefore at h
  split at h
  · cases h; exact (.cons (.refl _) .nil)
  · cases h
def dbeforeC : Con := conOf sh_dbefore (fun y => some (Ob (1 ≤ y ∧ y ≤ 12))) (fun y => .int .i64 (beforeS y))
set_option maxRecDepth 100000 in
theorem vc_dbefore (y : Int) : (wpF ⟨14, tyT, [], false⟩ (noAnn) [] Try.f46 (em_dbefore y) (.int .i64 (beforeS y))) = ((((decide ((2 : Int) < y) = true) → (Ob (((5 : Int) ≠ (0 : Int))) ∧ ((IntKind.i64.wrap (IntKind.i64.wrap ((IntKind.i64.wrap (IntKind.i64.wrap ((153 : Int) * IntKind.i64.wrap (y - (3 : Int))) + (2 : Int))).tdiv (5 : Int)) + (59 : Int)) = beforeS y) ∧ (True)))) ∧ ((decide ((2 : Int) < y) = false) → ((IntKind.i64.wrap ((31 : Int) * IntKind.i64.wrap (y - (1 : Int))) = beforeS y) ∧ (True))))) := by kernel_rfl
def sh_dnumber : List SV → Option (Int × Int × Int)
  | [.agg [.int .i64 y, .int .i64 m, .int .i64 d]] => some (y, m, d)
  | _ => none
def em_dnumber : Int × Int × Int → List SV := fun (y, m, d) => [.agg [.int .i64 y, .int .i64 m, .int .i64 d]]
theorem sh_dnumber_le : ∀ us a, sh_dnumber us = some a → leL us (em_dnumber a) := by
  intro us a h
  unfold sh_dnumber at h
  split at h
  · cases h; exact (.cons (.agg (.cons (.refl _) (.cons (.refl _) (.cons (.refl _) .nil)))) .nil)
  · cases h
def dnumberC : Con := conOf sh_dnumber (fun _ => none) (fun (y, m, d) => .tup [.int .i64 (if rightS (y, m, d) = true then numS (y, m, d) else 0), .int .i64 (if rightS (y, m, d) = true then 0 else 30)])
set_option maxRecDepth 100000 in
theorem vc_dnumber (y : Int) (m : Int) (d : Int) : (wpF ⟨37, tyT, [(44, drightC), (45, dleapsC), (46, dbeforeC), (47, dleapC)], false⟩ (noAnn) [] Try.f33 (em_dnumber (y, m, d)) (.tup [.int .i64 (if rightS (y, m, d) = true then numS (y, m, d) else 0), .int .i64 (if rightS (y, m, d) = true then 0 else 30)])) = (((((!rightS (y, m, d)) = true) → (((0 : Int) = if rightS (y, m, d) = true then numS (y, m, d) else (0 : Int)) ∧ (((30 : Int) = if rightS (y, m, d) = true then (0 : Int) else (30 : Int)) ∧ (True)))) ∧ (((!rightS (y, m, d)) = false) → (Ob ((((1900 : Int) ≤ y) ∧ (y ≤ (2200 : Int)))) ∧ (Ob ((((1900 : Int) ≤ (1900 : Int)) ∧ ((1900 : Int) ≤ (2200 : Int)))) ∧ (Ob ((((1 : Int) ≤ m) ∧ (m ≤ (12 : Int)))) ∧ (((decide ((2 : Int) < m) = true) → (((leapS y = true) → ((IntKind.i64.wrap (IntKind.i64.wrap (IntKind.i64.wrap (IntKind.i64.wrap (IntKind.i64.wrap (IntKind.i64.wrap (IntKind.i64.wrap ((365 : Int) * IntKind.i64.wrap (y - (1900 : Int))) + leapsS y) - (460 : Int)) + beforeS m) + d) - (1 : Int)) + (1 : Int)) = if rightS (y, m, d) = true then numS (y, m, d) else (0 : Int)) ∧ (((0 : Int) = if rightS (y, m, d) = true then (0 : Int) else (30 : Int)) ∧ (True)))) ∧ ((leapS y = false) → ((IntKind.i64.wrap (IntKind.i64.wrap (IntKind.i64.wrap (IntKind.i64.wrap (IntKind.i64.wrap (IntKind.i64.wrap ((365 : Int) * IntKind.i64.wrap (y - (1900 : Int))) + leapsS y) - (460 : Int)) + beforeS m) + d) - (1 : Int)) = if rightS (y, m, d) = true then numS (y, m, d) else (0 : Int)) ∧ (((0 : Int) = if rightS (y, m, d) = true then (0 : Int) else (30 : Int)) ∧ (True)))))) ∧ ((decide ((2 : Int) < m) = false) → ((IntKind.i64.wrap (IntKind.i64.wrap (IntKind.i64.wrap (IntKind.i64.wrap (IntKind.i64.wrap (IntKind.i64.wrap ((365 : Int) * IntKind.i64.wrap (y - (1900 : Int))) + leapsS y) - (460 : Int)) + beforeS m) + d) - (1 : Int)) = if rightS (y, m, d) = true then numS (y, m, d) else (0 : Int)) ∧ (((0 : Int) = if rightS (y, m, d) = true then (0 : Int) else (30 : Int)) ∧ (True))))))))))) := by kernel_rfl
def sh_dweekday : List SV → Option (Int × Int × Int)
  | [.agg [.int .i64 y, .int .i64 m, .int .i64 d]] => some (y, m, d)
  | _ => none
def em_dweekday : Int × Int × Int → List SV := fun (y, m, d) => [.agg [.int .i64 y, .int .i64 m, .int .i64 d]]
theorem sh_dweekday_le : ∀ us a, sh_dweekday us = some a → leL us (em_dweekday a) := by
  intro us a h
  unfold sh_dweekday at h
  split at h
  · cases h; exact (.cons (.agg (.cons (.refl _) (.cons (.refl _) (.cons (.refl _) .nil)))) .nil)
  · cases h
def dweekdayC : Con := conOf sh_dweekday (fun _ => none) (fun (y, m, d) => .tup [.int .i64 (if rightS (y, m, d) = true then numS (y, m, d) % 7 else 0), .int .i64 (if rightS (y, m, d) = true then 0 else 30)])
set_option maxRecDepth 100000 in
theorem vc_dweekday (y : Int) (m : Int) (d : Int) : (wpF ⟨14, tyT, [(33, dnumberC)], false⟩ (noAnn) [] Try.f43 (em_dweekday (y, m, d)) (.tup [.int .i64 (if rightS (y, m, d) = true then numS (y, m, d) % 7 else 0), .int .i64 (if rightS (y, m, d) = true then 0 else 30)])) = ((Ob (((7 : Int) ≠ (0 : Int))) ∧ (((if rightS (y, m, d) = true then numS (y, m, d) else (0 : Int)).tmod (7 : Int) = if rightS (y, m, d) = true then numS (y, m, d) % (7 : Int) else (0 : Int)) ∧ (((if rightS (y, m, d) = true then (0 : Int) else (30 : Int)) = if rightS (y, m, d) = true then (0 : Int) else (30 : Int)) ∧ (True))))) := by kernel_rfl
def sh_drnumber : List SV → Option (Int × Int × Int)
  | [.agg [.int .i64 y, .int .i64 m, .int .i64 d]] => some (y, m, d)
  | _ => none
def em_drnumber : Int × Int × Int → List SV := fun (y, m, d) => [.agg [.int .i64 y, .int .i64 m, .int .i64 d]]
theorem sh_drnumber_le : ∀ us a, sh_drnumber us = some a → leL us (em_drnumber a) := by
  intro us a h
  unfold sh_drnumber at h
  split at h
  · cases h; exact (.cons (.agg (.cons (.refl _) (.cons (.refl _) (.cons (.refl _) .nil)))) .nil)
  · cases h
def drnumberC : Con := conOf sh_drnumber (fun _ => none) (fun (y, m, d) => .int .i64 (if rightS (y, m, d) = true then numS (y, m, d) else -1))
set_option maxRecDepth 100000 in
theorem vc_drnumber (y : Int) (m : Int) (d : Int) : (wpF ⟨35, tyT, [(36, drrightC), (37, dlongC), (23, dmonthC)], false⟩ ((rnumAn (y, m, d))) [] Try.f15 (em_drnumber (y, m, d)) (.int .i64 (if rightS (y, m, d) = true then numS (y, m, d) else -1))) = (((((!rightS (y, m, d)) = true) → (((-1 : Int) = if rightS (y, m, d) = true then numS (y, m, d) else (-1 : Int)) ∧ (True))) ∧ (((!rightS (y, m, d)) = false) → ((∃ (x1 : Int), ((IntKind.i64.wrap (d - (1 : Int)) = d - (1 : Int) + yearsS x1) ∧ (((1900 : Int) = x1) ∧ ((y = y) ∧ ((m = m) ∧ ((d = d) ∧ ((((1900 : Int) ≤ x1) ∧ (x1 ≤ (y, m, d).fst)) ∧ ((True) ∧ (True))))))))) ∧ (∀ (x2 : Int), ((((1900 : Int) ≤ x2) ∧ (x2 ≤ (y, m, d).fst)) → (((decide (x2 < y) = true) → (∃ (x3 : Int), ((IntKind.i64.wrap (d - (1 : Int) + yearsS x2 + longS x2) = d - (1 : Int) + yearsS x3) ∧ ((IntKind.i64.wrap (x2 + (1 : Int)) = x3) ∧ ((y = y) ∧ ((m = m) ∧ ((d = d) ∧ ((((1900 : Int) ≤ x3) ∧ (x3 ≤ (y, m, d).fst)) ∧ (((y - x3).toNat < (y - x2).toNat) ∧ (True)))))))))) ∧ ((decide (x2 < y) = false) → ((∃ (x4 : Int), ((d - (1 : Int) + yearsS x2 = d - (1 : Int) + yearsS y + monthsS y x4) ∧ (((1 : Int) = x4) ∧ ((y = y) ∧ ((m = m) ∧ ((d = d) ∧ ((((1 : Int) ≤ x4) ∧ (x4 ≤ (y, m, d).snd.fst)) ∧ ((True) ∧ (True))))))))) ∧ (∀ (x5 : Int), ((((1 : Int) ≤ x5) ∧ (x5 ≤ (y, m, d).snd.fst)) → (((decide (x5 < m) = true) → (∃ (x6 : Int), ((IntKind.i64.wrap (d - (1 : Int) + yearsS y + monthsS y x5 + monthS y x5) = d - (1 : Int) + yearsS y + monthsS y x6) ∧ ((IntKind.i64.wrap (x5 + (1 : Int)) = x6) ∧ ((y = y) ∧ ((m = m) ∧ ((d = d) ∧ ((((1 : Int) ≤ x6) ∧ (x6 ≤ (y, m, d).snd.fst)) ∧ (((m - x6).toNat < (m - x5).toNat) ∧ (True)))))))))) ∧ ((decide (x5 < m) = false) → ((d - (1 : Int) + yearsS y + monthsS y x5 = if rightS (y, m, d) = true then numS (y, m, d) else (-1 : Int)) ∧ (True))))))))))))))) := by kernel_rfl
def sh_dof : List SV → Option (Int)
  | [.int .i64 n] => some n
  | _ => none
def em_dof : Int → List SV := fun n => [.int .i64 n]
theorem sh_dof_le : ∀ us a, sh_dof us = some a → leL us (em_dof a) := by
  intro us a h
  unfold sh_dof at h
  split at h
  · cases h; exact (.cons (.refl _) .nil)
  · cases h
noncomputable def dofC : Con := conOf sh_dof (fun _ => none) (fun n => .tup [dSV (ofS n), .int .i64 (if thereS n = true then 0 else 30)])
set_option maxRecDepth 100000 in
theorem vc_dof (n : Int) : (wpF ⟨71, tyT, [(33, dnumberC), (48, dlastC)], false⟩ ((ofAn n)) [] Try.f39 (em_dof n) (.tup [dSV (ofS n), .int .i64 (if thereS n = true then 0 else 30)])) = ((((decide (n < (0 : Int)) = true) → (((0 : Int) = (ofS n).fst) ∧ (((0 : Int) = (ofS n).snd.fst) ∧ (((0 : Int) = (ofS n).snd.snd) ∧ (((30 : Int) = if thereS n = true then (0 : Int) else (30 : Int)) ∧ (True)))))) ∧ ((decide (n < (0 : Int)) = false) → (((decide ((109573 : Int) ≤ n) = true) → (((0 : Int) = (ofS n).fst) ∧ (((0 : Int) = (ofS n).snd.fst) ∧ (((0 : Int) = (ofS n).snd.snd) ∧ (((30 : Int) = if thereS n = true then (0 : Int) else (30 : Int)) ∧ (True)))))) ∧ ((decide ((109573 : Int) ≤ n) = false) → (Ob (((366 : Int) ≠ (0 : Int))) ∧ ((∃ (x1 : Int), ((n = n) ∧ (((0 : Int) = (0 : Int)) ∧ (((0 : Int) = (0 : Int)) ∧ (((0 : Int) = (0 : Int)) ∧ ((IntKind.i64.wrap ((1900 : Int) + IntKind.i64.wrap (n.tdiv (366 : Int))) = x1) ∧ (((1 : Int) = (1 : Int)) ∧ (((1 : Int) = (1 : Int)) ∧ ((((1900 : Int) ≤ x1) ∧ ((x1 ≤ (2199 : Int)) ∧ (yearsS x1 ≤ n))) ∧ ((True) ∧ (True))))))))))) ∧ (∀ (x2 : Int), ((((1900 : Int) ≤ x2) ∧ ((x2 ≤ (2199 : Int)) ∧ (yearsS x2 ≤ n))) → (((decide (x2 < (2199 : Int)) = true) → (((decide (n < if rightS (IntKind.i64.wrap ((x2, (1 : Int), (1 : Int)).fst + (1 : Int)), (1 : Int), (1 : Int)) = true then numS (IntKind.i64.wrap (x2 + (1 : Int)), (1 : Int), (1 : Int)) else (0 : Int)) = true) → ((∃ (x3 : Int × Int), ((IntKind.i64.wrap (n - if rightS ((x2, (1 : Int), (1 : Int)).fst, (x2, (1 : Int), (1 : Int)).snd.fst, (x2, (1 : Int), (1 : Int)).snd.snd) = true then numS (x2, (1 : Int), (1 : Int)) else (0 : Int)) = n - yearsS x3.fst - monthsS x3.fst x3.snd) ∧ (((0 : Int) = (0 : Int)) ∧ (((0 : Int) = (0 : Int)) ∧ (((0 : Int) = (0 : Int)) ∧ ((x2 = x3.fst) ∧ (((1 : Int) = x3.snd) ∧ (((1 : Int) = (1 : Int)) ∧ (((inYear n x3.fst) ∧ (inMonth n x3.fst x3.snd)) ∧ ((True) ∧ (True))))))))))) ∧ (∀ (x4 : Int × Int), (((inYear n x4.fst) ∧ (inMonth n x4.fst x4.snd)) → (((decide (lastS x4.fst x4.snd ≤ n - yearsS x4.fst - monthsS x4.fst x4.snd) = true) → (∃ (x5 : Int × Int), ((IntKind.i64.wrap (n - yearsS x4.fst - monthsS x4.fst x4.snd - lastS x4.fst x4.snd) = n - yearsS x5.fst - monthsS x5.fst x5.snd) ∧ (((0 : Int) = (0 : Int)) ∧ (((0 : Int) = (0 : Int)) ∧ (((0 : Int) = (0 : Int)) ∧ ((x4.fst = x5.fst) ∧ ((IntKind.i64.wrap (x4.snd + (1 : Int)) = x5.snd) ∧ (((1 : Int) = (1 : Int)) ∧ (((inYear n x5.fst) ∧ (inMonth n x5.fst x5.snd)) ∧ ((((12 : Int) - x5.snd).toNat < ((12 : Int) - x4.snd).toNat) ∧ (True)))))))))))) ∧ ((decide (lastS x4.fst x4.snd ≤ n - yearsS x4.fst - monthsS x4.fst x4.snd) = false) → ((x4.fst = (ofS n).fst) ∧ ((x4.snd = (ofS n).snd.fst) ∧ ((IntKind.i64.wrap ((1 : Int) + (n - yearsS x4.fst - monthsS x4.fst x4.snd)) = (ofS n).snd.snd) ∧ (((0 : Int) = if thereS n = true then (0 : Int) else (30 : Int)) ∧ (True))))))))))) ∧ ((decide (n < if rightS (IntKind.i64.wrap ((x2, (1 : Int), (1 : Int)).fst + (1 : Int)), (1 : Int), (1 : Int)) = true then numS (IntKind.i64.wrap (x2 + (1 : Int)), (1 : Int), (1 : Int)) else (0 : Int)) = false) → (∃ (x6 : Int), ((n = n) ∧ (((0 : Int) = (0 : Int)) ∧ (((0 : Int) = (0 : Int)) ∧ (((0 : Int) = (0 : Int)) ∧ ((IntKind.i64.wrap (x2 + (1 : Int)) = x6) ∧ (((1 : Int) = (1 : Int)) ∧ (((1 : Int) = (1 : Int)) ∧ ((((1900 : Int) ≤ x6) ∧ ((x6 ≤ (2199 : Int)) ∧ (yearsS x6 ≤ n))) ∧ ((((2199 : Int) - x6).toNat < ((2199 : Int) - x2).toNat) ∧ (True)))))))))))))) ∧ ((decide (x2 < (2199 : Int)) = false) → ((∃ (x7 : Int × Int), ((IntKind.i64.wrap (n - if rightS ((x2, (1 : Int), (1 : Int)).fst, (x2, (1 : Int), (1 : Int)).snd.fst, (x2, (1 : Int), (1 : Int)).snd.snd) = true then numS (x2, (1 : Int), (1 : Int)) else (0 : Int)) = n - yearsS x7.fst - monthsS x7.fst x7.snd) ∧ (((0 : Int) = (0 : Int)) ∧ (((0 : Int) = (0 : Int)) ∧ (((0 : Int) = (0 : Int)) ∧ ((x2 = x7.fst) ∧ (((1 : Int) = x7.snd) ∧ (((1 : Int) = (1 : Int)) ∧ (((inYear n x7.fst) ∧ (inMonth n x7.fst x7.snd)) ∧ ((True) ∧ (True))))))))))) ∧ (∀ (x8 : Int × Int), (((inYear n x8.fst) ∧ (inMonth n x8.fst x8.snd)) → (((decide (lastS x8.fst x8.snd ≤ n - yearsS x8.fst - monthsS x8.fst x8.snd) = true) → (∃ (x9 : Int × Int), ((IntKind.i64.wrap (n - yearsS x8.fst - monthsS x8.fst x8.snd - lastS x8.fst x8.snd) = n - yearsS x9.fst - monthsS x9.fst x9.snd) ∧ (((0 : Int) = (0 : Int)) ∧ (((0 : Int) = (0 : Int)) ∧ (((0 : Int) = (0 : Int)) ∧ ((x8.fst = x9.fst) ∧ ((IntKind.i64.wrap (x8.snd + (1 : Int)) = x9.snd) ∧ (((1 : Int) = (1 : Int)) ∧ (((inYear n x9.fst) ∧ (inMonth n x9.fst x9.snd)) ∧ ((((12 : Int) - x9.snd).toNat < ((12 : Int) - x8.snd).toNat) ∧ (True)))))))))))) ∧ ((decide (lastS x8.fst x8.snd ≤ n - yearsS x8.fst - monthsS x8.fst x8.snd) = false) → ((x8.fst = (ofS n).fst) ∧ ((x8.snd = (ofS n).snd.fst) ∧ ((IntKind.i64.wrap ((1 : Int) + (n - yearsS x8.fst - monthsS x8.fst x8.snd)) = (ofS n).snd.snd) ∧ (((0 : Int) = if thereS n = true then (0 : Int) else (30 : Int)) ∧ (True))))))))))))))))))))) := by kernel_rfl
def sh_drof : List SV → Option (Int)
  | [.int .i64 n] => some n
  | _ => none
def em_drof : Int → List SV := fun n => [.int .i64 n]
theorem sh_drof_le : ∀ us a, sh_drof us = some a → leL us (em_drof a) := by
  intro us a h
  unfold sh_drof at h
  split at h
  · cases h; exact (.cons (.refl _) .nil)
  · cases h
noncomputable def drofC : Con := conOf sh_drof (fun n => some (Ob (inR n))) (fun n => .tup [dSV (ofS n), .bool (thereS n)])
set_option maxRecDepth 100000 in
theorem vc_drof (n : Int) : (wpF ⟨39, tyT, [(37, dlongC), (23, dmonthC)], false⟩ ((rofAn n)) [] Try.f25 (em_drof n) (.tup [dSV (ofS n), .bool (thereS n)])) = ((((decide (n < (0 : Int)) = true) → (((0 : Int) = (ofS n).fst) ∧ (((0 : Int) = (ofS n).snd.fst) ∧ (((0 : Int) = (ofS n).snd.snd) ∧ ((thereS n = false) ∧ (True)))))) ∧ ((decide (n < (0 : Int)) = false) → ((∃ (x1 : Int), ((n = n - yearsS x1) ∧ (((1900 : Int) = x1) ∧ (((0 : Int) = (0 : Int)) ∧ (((0 : Int) = (0 : Int)) ∧ (((0 : Int) = (0 : Int)) ∧ ((((1900 : Int) ≤ x1) ∧ ((x1 ≤ (2200 : Int)) ∧ (yearsS x1 ≤ n))) ∧ ((True) ∧ (True))))))))) ∧ (∀ (x2 : Int), ((((1900 : Int) ≤ x2) ∧ ((x2 ≤ (2200 : Int)) ∧ (yearsS x2 ≤ n))) → (((decide (x2 ≤ (2199 : Int)) = true) → (((decide (longS x2 ≤ n - yearsS x2) = true) → (∃ (x3 : Int), ((IntKind.i64.wrap (n - yearsS x2 - longS x2) = n - yearsS x3) ∧ ((IntKind.i64.wrap (x2 + (1 : Int)) = x3) ∧ (((0 : Int) = (0 : Int)) ∧ (((0 : Int) = (0 : Int)) ∧ (((0 : Int) = (0 : Int)) ∧ ((((1900 : Int) ≤ x3) ∧ ((x3 ≤ (2200 : Int)) ∧ (yearsS x3 ≤ n))) ∧ ((((2200 : Int) - x3).toNat < ((2200 : Int) - x2).toNat) ∧ (True)))))))))) ∧ ((decide (longS x2 ≤ n - yearsS x2) = false) → ((∃ (x4 : Int × Int), ((n - yearsS x2 = n - yearsS x4.fst - monthsS x4.fst x4.snd) ∧ ((x2 = x4.fst) ∧ (((1 : Int) = x4.snd) ∧ (((0 : Int) = (0 : Int)) ∧ (((0 : Int) = (0 : Int)) ∧ (((0 : Int) = (0 : Int)) ∧ (((inYear n x4.fst) ∧ (inMonth n x4.fst x4.snd)) ∧ ((True) ∧ (True)))))))))) ∧ (∀ (x5 : Int × Int), (((inYear n x5.fst) ∧ (inMonth n x5.fst x5.snd)) → (((decide (monthS x5.fst x5.snd ≤ n - yearsS x5.fst - monthsS x5.fst x5.snd) = true) → (∃ (x6 : Int × Int), ((IntKind.i64.wrap (n - yearsS x5.fst - monthsS x5.fst x5.snd - monthS x5.fst x5.snd) = n - yearsS x6.fst - monthsS x6.fst x6.snd) ∧ ((x5.fst = x6.fst) ∧ ((IntKind.i64.wrap (x5.snd + (1 : Int)) = x6.snd) ∧ (((0 : Int) = (0 : Int)) ∧ (((0 : Int) = (0 : Int)) ∧ (((0 : Int) = (0 : Int)) ∧ (((inYear n x6.fst) ∧ (inMonth n x6.fst x6.snd)) ∧ ((((12 : Int) - x6.snd).toNat < ((12 : Int) - x5.snd).toNat) ∧ (True))))))))))) ∧ ((decide (monthS x5.fst x5.snd ≤ n - yearsS x5.fst - monthsS x5.fst x5.snd) = false) → ((x5.fst = (ofS n).fst) ∧ ((x5.snd = (ofS n).snd.fst) ∧ ((IntKind.i64.wrap (n - yearsS x5.fst - monthsS x5.fst x5.snd + (1 : Int)) = (ofS n).snd.snd) ∧ ((thereS n = true) ∧ (True))))))))))))) ∧ ((decide (x2 ≤ (2199 : Int)) = false) → (((0 : Int) = (ofS n).fst) ∧ (((0 : Int) = (ofS n).snd.fst) ∧ (((0 : Int) = (ofS n).snd.snd) ∧ ((thereS n = false) ∧ (True))))))))))))) := by kernel_rfl
def sh_dmonths : List SV → Option (Int × Int × Int × Int)
  | [.agg [.int .i64 y, .int .i64 m, .int .i64 d], .int .i64 n] => some (y, m, d, n)
  | _ => none
def em_dmonths : Int × Int × Int × Int → List SV := fun (y, m, d, n) => [.agg [.int .i64 y, .int .i64 m, .int .i64 d], .int .i64 n]
theorem sh_dmonths_le : ∀ us a, sh_dmonths us = some a → leL us (em_dmonths a) := by
  intro us a h
  unfold sh_dmonths at h
  split at h
  · cases h; exact (.cons (.agg (.cons (.refl _) (.cons (.refl _) (.cons (.refl _) .nil)))) (.cons (.refl _) .nil))
  · cases h
def dmonthsC : Con := conOf sh_dmonths (fun _ => none) (fun (y, m, d, n) => .tup [dSV (if monthsOk ((y, m, d), n) = true then monthsOn ((y, m, d), n) else (0, 0, 0)), .int .i64 (if monthsOk ((y, m, d), n) = true then 0 else 30)])
set_option maxRecDepth 100000 in
theorem vc_dmonths (y : Int) (m : Int) (d : Int) (n : Int) : (wpF ⟨51, tyT, [(44, drightC), (48, dlastC)], false⟩ (noAnn) [] Try.f35 (em_dmonths (y, m, d, n)) (.tup [dSV (if monthsOk ((y, m, d), n) = true then monthsOn ((y, m, d), n) else (0, 0, 0)), .int .i64 (if monthsOk ((y, m, d), n) = true then 0 else 30)])) = (((((!rightS (y, m, d)) = true) → (((0 : Int) = (if monthsOk ((y, m, d), n) = true then monthsOn ((y, m, d), n) else ((0 : Int), (0 : Int), (0 : Int))).fst) ∧ (((0 : Int) = (if monthsOk ((y, m, d), n) = true then monthsOn ((y, m, d), n) else ((0 : Int), (0 : Int), (0 : Int))).snd.fst) ∧ (((0 : Int) = (if monthsOk ((y, m, d), n) = true then monthsOn ((y, m, d), n) else ((0 : Int), (0 : Int), (0 : Int))).snd.snd) ∧ (((30 : Int) = if monthsOk ((y, m, d), n) = true then (0 : Int) else (30 : Int)) ∧ (True)))))) ∧ (((!rightS (y, m, d)) = false) → (((decide ((3600 : Int) < n) = true) → (((0 : Int) = (if monthsOk ((y, m, d), n) = true then monthsOn ((y, m, d), n) else ((0 : Int), (0 : Int), (0 : Int))).fst) ∧ (((0 : Int) = (if monthsOk ((y, m, d), n) = true then monthsOn ((y, m, d), n) else ((0 : Int), (0 : Int), (0 : Int))).snd.fst) ∧ (((0 : Int) = (if monthsOk ((y, m, d), n) = true then monthsOn ((y, m, d), n) else ((0 : Int), (0 : Int), (0 : Int))).snd.snd) ∧ (((30 : Int) = if monthsOk ((y, m, d), n) = true then (0 : Int) else (30 : Int)) ∧ (True)))))) ∧ ((decide ((3600 : Int) < n) = false) → (((decide (n < (-3600 : Int)) = true) → (((0 : Int) = (if monthsOk ((y, m, d), n) = true then monthsOn ((y, m, d), n) else ((0 : Int), (0 : Int), (0 : Int))).fst) ∧ (((0 : Int) = (if monthsOk ((y, m, d), n) = true then monthsOn ((y, m, d), n) else ((0 : Int), (0 : Int), (0 : Int))).snd.fst) ∧ (((0 : Int) = (if monthsOk ((y, m, d), n) = true then monthsOn ((y, m, d), n) else ((0 : Int), (0 : Int), (0 : Int))).snd.snd) ∧ (((30 : Int) = if monthsOk ((y, m, d), n) = true then (0 : Int) else (30 : Int)) ∧ (True)))))) ∧ ((decide (n < (-3600 : Int)) = false) → (Ob (((12 : Int) ≠ (0 : Int))) ∧ (Ob (((12 : Int) ≠ (0 : Int))) ∧ ((((!rightS (IntKind.i64.wrap ((IntKind.i64.wrap (IntKind.i64.wrap (IntKind.i64.wrap (IntKind.i64.wrap ((12 : Int) * y) + m) - (1 : Int)) + n)).tdiv (12 : Int)), IntKind.i64.wrap ((IntKind.i64.wrap (IntKind.i64.wrap (IntKind.i64.wrap (IntKind.i64.wrap ((12 : Int) * y) + m) - (1 : Int)) + n)).tmod (12 : Int) + (1 : Int)), minV d (lastS (IntKind.i64.wrap ((IntKind.i64.wrap (IntKind.i64.wrap (IntKind.i64.wrap (IntKind.i64.wrap ((12 : Int) * y) + m) - (1 : Int)) + n)).tdiv (12 : Int))) (IntKind.i64.wrap ((IntKind.i64.wrap (IntKind.i64.wrap (IntKind.i64.wrap (IntKind.i64.wrap ((12 : Int) * y) + m) - (1 : Int)) + n)).tmod (12 : Int) + (1 : Int)))))) = true) → (((0 : Int) = (if monthsOk ((y, m, d), n) = true then monthsOn ((y, m, d), n) else ((0 : Int), (0 : Int), (0 : Int))).fst) ∧ (((0 : Int) = (if monthsOk ((y, m, d), n) = true then monthsOn ((y, m, d), n) else ((0 : Int), (0 : Int), (0 : Int))).snd.fst) ∧ (((0 : Int) = (if monthsOk ((y, m, d), n) = true then monthsOn ((y, m, d), n) else ((0 : Int), (0 : Int), (0 : Int))).snd.snd) ∧ (((30 : Int) = if monthsOk ((y, m, d), n) = true then (0 : Int) else (30 : Int)) ∧ (True)))))) ∧ (((!rightS (IntKind.i64.wrap ((IntKind.i64.wrap (IntKind.i64.wrap (IntKind.i64.wrap (IntKind.i64.wrap ((12 : Int) * y) + m) - (1 : Int)) + n)).tdiv (12 : Int)), IntKind.i64.wrap ((IntKind.i64.wrap (IntKind.i64.wrap (IntKind.i64.wrap (IntKind.i64.wrap ((12 : Int) * y) + m) - (1 : Int)) + n)).tmod (12 : Int) + (1 : Int)), minV d (lastS (IntKind.i64.wrap ((IntKind.i64.wrap (IntKind.i64.wrap (IntKind.i64.wrap (IntKind.i64.wrap ((12 : Int) * y) + m) - (1 : Int)) + n)).tdiv (12 : Int))) (IntKind.i64.wrap ((IntKind.i64.wrap (IntKind.i64.wrap (IntKind.i64.wrap (IntKind.i64.wrap ((12 : Int) * y) + m) - (1 : Int)) + n)).tmod (12 : Int) + (1 : Int)))))) = false) → ((IntKind.i64.wrap ((IntKind.i64.wrap (IntKind.i64.wrap (IntKind.i64.wrap (IntKind.i64.wrap ((12 : Int) * y) + m) - (1 : Int)) + n)).tdiv (12 : Int)) = (if monthsOk ((y, m, d), n) = true then monthsOn ((y, m, d), n) else ((0 : Int), (0 : Int), (0 : Int))).fst) ∧ ((IntKind.i64.wrap ((IntKind.i64.wrap (IntKind.i64.wrap (IntKind.i64.wrap (IntKind.i64.wrap ((12 : Int) * y) + m) - (1 : Int)) + n)).tmod (12 : Int) + (1 : Int)) = (if monthsOk ((y, m, d), n) = true then monthsOn ((y, m, d), n) else ((0 : Int), (0 : Int), (0 : Int))).snd.fst) ∧ ((minV d (lastS (IntKind.i64.wrap ((IntKind.i64.wrap (IntKind.i64.wrap (IntKind.i64.wrap (IntKind.i64.wrap ((12 : Int) * y) + m) - (1 : Int)) + n)).tdiv (12 : Int))) (IntKind.i64.wrap ((IntKind.i64.wrap (IntKind.i64.wrap (IntKind.i64.wrap (IntKind.i64.wrap ((12 : Int) * y) + m) - (1 : Int)) + n)).tmod (12 : Int) + (1 : Int)))) = (if monthsOk ((y, m, d), n) = true then monthsOn ((y, m, d), n) else ((0 : Int), (0 : Int), (0 : Int))).snd.snd) ∧ (((0 : Int) = if monthsOk ((y, m, d), n) = true then (0 : Int) else (30 : Int)) ∧ (True)))))))))))))))) := by kernel_rfl
def sh_dbetween : List SV → Option (Int × Int × Int × Int × Int × Int)
  | [.agg [.int .i64 y, .int .i64 m, .int .i64 d], .agg [.int .i64 y', .int .i64 m', .int .i64 d']] => some (y, m, d, y', m', d')
  | _ => none
def em_dbetween : Int × Int × Int × Int × Int × Int → List SV := fun (y, m, d, y', m', d') => [.agg [.int .i64 y, .int .i64 m, .int .i64 d], .agg [.int .i64 y', .int .i64 m', .int .i64 d']]
theorem sh_dbetween_le : ∀ us a, sh_dbetween us = some a → leL us (em_dbetween a) := by
  intro us a h
  unfold sh_dbetween at h
  split at h
  · cases h; exact (.cons (.agg (.cons (.refl _) (.cons (.refl _) (.cons (.refl _) .nil)))) (.cons (.agg (.cons (.refl _) (.cons (.refl _) (.cons (.refl _) .nil)))) .nil))
  · cases h
def dbetweenC : Con := conOf sh_dbetween (fun _ => none) (fun (y, m, d, y', m', d') => .tup [.int .i64 (if betweenOk ((y, m, d), (y', m', d')) = true then numS (y', m', d') - numS (y, m, d) else 0), .int .i64 (if betweenOk ((y, m, d), (y', m', d')) = true then 0 else 30)])
set_option maxRecDepth 100000 in
theorem vc_dbetween (y : Int) (m : Int) (d : Int) (y' : Int) (m' : Int) (d' : Int) : (wpF ⟨29, tyT, [(33, dnumberC)], false⟩ (noAnn) [] Try.f16 (em_dbetween (y, m, d, y', m', d')) (.tup [.int .i64 (if betweenOk ((y, m, d), (y', m', d')) = true then numS (y', m', d') - numS (y, m, d) else 0), .int .i64 (if betweenOk ((y, m, d), (y', m', d')) = true then 0 else 30)])) = (((((!decide ((if rightS (y, m, d) = true then (0 : Int) else (30 : Int)) = (0 : Int))) = true) → (((0 : Int) = if betweenOk ((y, m, d), y', m', d') = true then numS (y', m', d') - numS (y, m, d) else (0 : Int)) ∧ (((30 : Int) = if betweenOk ((y, m, d), y', m', d') = true then (0 : Int) else (30 : Int)) ∧ (True)))) ∧ (((!decide ((if rightS (y, m, d) = true then (0 : Int) else (30 : Int)) = (0 : Int))) = false) → ((((!decide ((if rightS (y', m', d') = true then (0 : Int) else (30 : Int)) = (0 : Int))) = true) → (((0 : Int) = if betweenOk ((y, m, d), y', m', d') = true then numS (y', m', d') - numS (y, m, d) else (0 : Int)) ∧ (((30 : Int) = if betweenOk ((y, m, d), y', m', d') = true then (0 : Int) else (30 : Int)) ∧ (True)))) ∧ (((!decide ((if rightS (y', m', d') = true then (0 : Int) else (30 : Int)) = (0 : Int))) = false) → ((IntKind.i64.wrap ((if rightS (y', m', d') = true then numS (y', m', d') else (0 : Int)) - if rightS (y, m, d) = true then numS (y, m, d) else (0 : Int)) = if betweenOk ((y, m, d), y', m', d') = true then numS (y', m', d') - numS (y, m, d) else (0 : Int)) ∧ (((0 : Int) = if betweenOk ((y, m, d), y', m', d') = true then (0 : Int) else (30 : Int)) ∧ (True)))))))) := by kernel_rfl
def sh_dcompare : List SV → Option (Int × Int × Int × Int × Int × Int)
  | [.agg [.int .i64 y, .int .i64 m, .int .i64 d], .agg [.int .i64 y', .int .i64 m', .int .i64 d']] => some (y, m, d, y', m', d')
  | _ => none
def em_dcompare : Int × Int × Int × Int × Int × Int → List SV := fun (y, m, d, y', m', d') => [.agg [.int .i64 y, .int .i64 m, .int .i64 d], .agg [.int .i64 y', .int .i64 m', .int .i64 d']]
theorem sh_dcompare_le : ∀ us a, sh_dcompare us = some a → leL us (em_dcompare a) := by
  intro us a h
  unfold sh_dcompare at h
  split at h
  · cases h; exact (.cons (.agg (.cons (.refl _) (.cons (.refl _) (.cons (.refl _) .nil)))) (.cons (.agg (.cons (.refl _) (.cons (.refl _) (.cons (.refl _) .nil)))) .nil))
  · cases h
def dcompareC : Con := conOf sh_dcompare (fun _ => none) (fun (y, m, d, y', m', d') => .int .i64 (lexC (y, m, d) (y', m', d')))
set_option maxRecDepth 100000 in
theorem vc_dcompare (y : Int) (m : Int) (d : Int) (y' : Int) (m' : Int) (d' : Int) : (wpF ⟨39, tyT, [], true⟩ ((unrAn [(3000, (4, [22, 23], []))])) [] Try.f26 (em_dcompare (y, m, d, y', m', d')) (.int .i64 (lexC (y, m, d) (y', m', d')))) = ((Ob ((((0 : Int) ≤ (0 : Int)) ∧ ((0 : Int) < (3 : Int)))) ∧ (Ob ((((0 : Int) ≤ (0 : Int)) ∧ ((0 : Int) < (2 : Int)))) ∧ (Ob ((((0 : Int) ≤ (1 : Int)) ∧ ((1 : Int) < (2 : Int)))) ∧ (((decide (y < y') = true) → (((-1 : Int) = lexC (y, m, d) (y', m', d')) ∧ (True))) ∧ ((decide (y < y') = false) → (Ob ((((0 : Int) ≤ (0 : Int)) ∧ ((0 : Int) < (2 : Int)))) ∧ (Ob ((((0 : Int) ≤ (1 : Int)) ∧ ((1 : Int) < (2 : Int)))) ∧ (((decide (y' < y) = true) → (((1 : Int) = lexC (y, m, d) (y', m', d')) ∧ (True))) ∧ ((decide (y' < y) = false) → (Ob ((((0 : Int) ≤ (1 : Int)) ∧ ((1 : Int) < (3 : Int)))) ∧ (Ob ((((0 : Int) ≤ (0 : Int)) ∧ ((0 : Int) < (2 : Int)))) ∧ (Ob ((((0 : Int) ≤ (1 : Int)) ∧ ((1 : Int) < (2 : Int)))) ∧ (((decide (m < m') = true) → (((-1 : Int) = lexC (y, m, d) (y', m', d')) ∧ (True))) ∧ ((decide (m < m') = false) → (Ob ((((0 : Int) ≤ (0 : Int)) ∧ ((0 : Int) < (2 : Int)))) ∧ (Ob ((((0 : Int) ≤ (1 : Int)) ∧ ((1 : Int) < (2 : Int)))) ∧ (((decide (m' < m) = true) → (((1 : Int) = lexC (y, m, d) (y', m', d')) ∧ (True))) ∧ ((decide (m' < m) = false) → (Ob ((((0 : Int) ≤ (2 : Int)) ∧ ((2 : Int) < (3 : Int)))) ∧ (Ob ((((0 : Int) ≤ (0 : Int)) ∧ ((0 : Int) < (2 : Int)))) ∧ (Ob ((((0 : Int) ≤ (1 : Int)) ∧ ((1 : Int) < (2 : Int)))) ∧ (((decide (d < d') = true) → (((-1 : Int) = lexC (y, m, d) (y', m', d')) ∧ (True))) ∧ ((decide (d < d') = false) → (Ob ((((0 : Int) ≤ (0 : Int)) ∧ ((0 : Int) < (2 : Int)))) ∧ (Ob ((((0 : Int) ≤ (1 : Int)) ∧ ((1 : Int) < (2 : Int)))) ∧ (((decide (d' < d) = true) → (((1 : Int) = lexC (y, m, d) (y', m', d')) ∧ (True))) ∧ ((decide (d' < d) = false) → (((0 : Int) = lexC (y, m, d) (y', m', d')) ∧ (True)))))))))))))))))))))))))))))) := by kernel_rfl
def sh_dadd : List SV → Option (Int × Int × Int × Int)
  | [.agg [.int .i64 y, .int .i64 m, .int .i64 d], .int .i64 n] => some (y, m, d, n)
  | _ => none
def em_dadd : Int × Int × Int × Int → List SV := fun (y, m, d, n) => [.agg [.int .i64 y, .int .i64 m, .int .i64 d], .int .i64 n]
theorem sh_dadd_le : ∀ us a, sh_dadd us = some a → leL us (em_dadd a) := by
  intro us a h
  unfold sh_dadd at h
  split at h
  · cases h; exact (.cons (.agg (.cons (.refl _) (.cons (.refl _) (.cons (.refl _) .nil)))) (.cons (.refl _) .nil))
  · cases h
noncomputable def daddC : Con := conOf sh_dadd (fun _ => none) (fun (y, m, d, n) => .tup [dSV (if addOk ((y, m, d), n) = true then ofS (numS (y, m, d) + n) else (0, 0, 0)), .int .i64 (if addOk ((y, m, d), n) = true then 0 else 30)])
set_option maxRecDepth 100000 in
theorem vc_dadd (y : Int) (m : Int) (d : Int) (n : Int) : (wpF ⟨30, tyT, [(33, dnumberC), (39, dofC)], false⟩ (noAnn) [] Try.f34 (em_dadd (y, m, d, n)) (.tup [dSV (if addOk ((y, m, d), n) = true then ofS (numS (y, m, d) + n) else (0, 0, 0)), .int .i64 (if addOk ((y, m, d), n) = true then 0 else 30)])) = (((((!decide ((if rightS (y, m, d) = true then (0 : Int) else (30 : Int)) = (0 : Int))) = true) → (((0 : Int) = (if addOk ((y, m, d), n) = true then ofS (numS (y, m, d) + n) else ((0 : Int), (0 : Int), (0 : Int))).fst) ∧ (((0 : Int) = (if addOk ((y, m, d), n) = true then ofS (numS (y, m, d) + n) else ((0 : Int), (0 : Int), (0 : Int))).snd.fst) ∧ (((0 : Int) = (if addOk ((y, m, d), n) = true then ofS (numS (y, m, d) + n) else ((0 : Int), (0 : Int), (0 : Int))).snd.snd) ∧ (((if rightS (y, m, d) = true then (0 : Int) else (30 : Int)) = if addOk ((y, m, d), n) = true then (0 : Int) else (30 : Int)) ∧ (True)))))) ∧ (((!decide ((if rightS (y, m, d) = true then (0 : Int) else (30 : Int)) = (0 : Int))) = false) → (((decide ((109573 : Int) < n) = true) → (((0 : Int) = (if addOk ((y, m, d), n) = true then ofS (numS (y, m, d) + n) else ((0 : Int), (0 : Int), (0 : Int))).fst) ∧ (((0 : Int) = (if addOk ((y, m, d), n) = true then ofS (numS (y, m, d) + n) else ((0 : Int), (0 : Int), (0 : Int))).snd.fst) ∧ (((0 : Int) = (if addOk ((y, m, d), n) = true then ofS (numS (y, m, d) + n) else ((0 : Int), (0 : Int), (0 : Int))).snd.snd) ∧ (((30 : Int) = if addOk ((y, m, d), n) = true then (0 : Int) else (30 : Int)) ∧ (True)))))) ∧ ((decide ((109573 : Int) < n) = false) → (((decide (n < (-109573 : Int)) = true) → (((0 : Int) = (if addOk ((y, m, d), n) = true then ofS (numS (y, m, d) + n) else ((0 : Int), (0 : Int), (0 : Int))).fst) ∧ (((0 : Int) = (if addOk ((y, m, d), n) = true then ofS (numS (y, m, d) + n) else ((0 : Int), (0 : Int), (0 : Int))).snd.fst) ∧ (((0 : Int) = (if addOk ((y, m, d), n) = true then ofS (numS (y, m, d) + n) else ((0 : Int), (0 : Int), (0 : Int))).snd.snd) ∧ (((30 : Int) = if addOk ((y, m, d), n) = true then (0 : Int) else (30 : Int)) ∧ (True)))))) ∧ ((decide (n < (-109573 : Int)) = false) → (((ofS (IntKind.i64.wrap ((if rightS (y, m, d) = true then numS (y, m, d) else (0 : Int)) + n))).fst = (if addOk ((y, m, d), n) = true then ofS (numS (y, m, d) + n) else ((0 : Int), (0 : Int), (0 : Int))).fst) ∧ (((ofS (IntKind.i64.wrap ((if rightS (y, m, d) = true then numS (y, m, d) else (0 : Int)) + n))).snd.fst = (if addOk ((y, m, d), n) = true then ofS (numS (y, m, d) + n) else ((0 : Int), (0 : Int), (0 : Int))).snd.fst) ∧ (((ofS (IntKind.i64.wrap ((if rightS (y, m, d) = true then numS (y, m, d) else (0 : Int)) + n))).snd.snd = (if addOk ((y, m, d), n) = true then ofS (numS (y, m, d) + n) else ((0 : Int), (0 : Int), (0 : Int))).snd.snd) ∧ (((if thereS (IntKind.i64.wrap ((if rightS (y, m, d) = true then numS (y, m, d) else (0 : Int)) + n)) = true then (0 : Int) else (30 : Int)) = if addOk ((y, m, d), n) = true then (0 : Int) else (30 : Int)) ∧ (True)))))))))))) := by kernel_rfl
def sh_dworkday : List SV → Option (Int × Int × Int)
  | [.agg [.int .i64 y, .int .i64 m, .int .i64 d]] => some (y, m, d)
  | _ => none
def em_dworkday : Int × Int × Int → List SV := fun (y, m, d) => [.agg [.int .i64 y, .int .i64 m, .int .i64 d]]
theorem sh_dworkday_le : ∀ us a, sh_dworkday us = some a → leL us (em_dworkday a) := by
  intro us a h
  unfold sh_dworkday at h
  split at h
  · cases h; exact (.cons (.agg (.cons (.refl _) (.cons (.refl _) (.cons (.refl _) .nil)))) .nil)
  · cases h
def dworkdayC : Con := conOf sh_dworkday (fun _ => none) (fun (y, m, d) => .bool (workS (y, m, d)))
set_option maxRecDepth 100000 in
theorem vc_dworkday (y : Int) (m : Int) (d : Int) : (wpF ⟨16, tyT, [(43, dweekdayC)], false⟩ (noAnn) [] Try.f32 (em_dworkday (y, m, d)) (.bool (workS (y, m, d)))) = ((((decide ((if rightS (y, m, d) = true then (0 : Int) else (30 : Int)) = (0 : Int)) = true) → ((decide ((if rightS (y, m, d) = true then numS (y, m, d) % (7 : Int) else (0 : Int)) < (5 : Int)) = workS (y, m, d)) ∧ (True))) ∧ ((decide ((if rightS (y, m, d) = true then (0 : Int) else (30 : Int)) = (0 : Int)) = false) → ((workS (y, m, d) = false) ∧ (True))))) := by kernel_rfl
def sh_drmonths : List SV → Option (Int × Int × Int × Int)
  | [.agg [.int .i64 y, .int .i64 m, .int .i64 d], .int .i64 n] => some (y, m, d, n)
  | _ => none
def em_drmonths : Int × Int × Int × Int → List SV := fun (y, m, d, n) => [.agg [.int .i64 y, .int .i64 m, .int .i64 d], .int .i64 n]
theorem sh_drmonths_le : ∀ us a, sh_drmonths us = some a → leL us (em_drmonths a) := by
  intro us a h
  unfold sh_drmonths at h
  split at h
  · cases h; exact (.cons (.agg (.cons (.refl _) (.cons (.refl _) (.cons (.refl _) .nil)))) (.cons (.refl _) .nil))
  · cases h
def drmonthsC : Con := conOf sh_drmonths (fun (y, m, d, n) => some (Ob (inR n))) (fun (y, m, d, n) => .tup [dSV (rmRes ((y, m, d), n)), .bool (rmonthsOk ((y, m, d), n))])
set_option maxRecDepth 100000 in
theorem vc_drmonths (y : Int) (m : Int) (d : Int) (n : Int) : (wpF ⟨66, tyT, [(36, drrightC), (23, dmonthC)], false⟩ ((rmAn ((y, m, d), n))) [] Try.f12 (em_drmonths (y, m, d, n)) (.tup [dSV (rmRes ((y, m, d), n)), .bool (rmonthsOk ((y, m, d), n))])) = (((((!rightS (y, m, d)) = true) → (((0 : Int) = (rmRes ((y, m, d), n)).fst) ∧ (((0 : Int) = (rmRes ((y, m, d), n)).snd.fst) ∧ (((0 : Int) = (rmRes ((y, m, d), n)).snd.snd) ∧ ((rmonthsOk ((y, m, d), n) = false) ∧ (True)))))) ∧ (((!rightS (y, m, d)) = false) → ((∃ (x1 : Int × Int × Int), ((n = x1.fst) ∧ ((y = x1.snd.fst) ∧ ((m = x1.snd.snd) ∧ ((y = y) ∧ ((m = m) ∧ ((d = d) ∧ (((0 : Int) = (0 : Int)) ∧ (((0 : Int) = (0 : Int)) ∧ (((0 : Int) = (0 : Int)) ∧ (((inSpan x1.snd.fst x1.snd.snd) ∧ (((12 : Int) * x1.snd.fst + x1.snd.snd - (1 : Int) + x1.fst = monthNo ((y, m, d), n)) ∧ (((((y, m, d), n).snd ≤ (0 : Int)) → (x1.fst = ((y, m, d), n).snd)) ∧ ((((0 : Int) ≤ ((y, m, d), n).snd) → (((0 : Int) ≤ x1.fst) ∧ (x1.fst ≤ ((y, m, d), n).snd))) ∧ (((1900 : Int) ≤ x1.snd.fst) ∧ ((x1.snd.fst = (2200 : Int)) → (x1.snd.snd = (1 : Int)))))))) ∧ ((True) ∧ (True))))))))))))) ∧ (∀ (x2 : Int × Int × Int), (((inSpan x2.snd.fst x2.snd.snd) ∧ (((12 : Int) * x2.snd.fst + x2.snd.snd - (1 : Int) + x2.fst = monthNo ((y, m, d), n)) ∧ (((((y, m, d), n).snd ≤ (0 : Int)) → (x2.fst = ((y, m, d), n).snd)) ∧ ((((0 : Int) ≤ ((y, m, d), n).snd) → (((0 : Int) ≤ x2.fst) ∧ (x2.fst ≤ ((y, m, d), n).snd))) ∧ (((1900 : Int) ≤ x2.snd.fst) ∧ ((x2.snd.fst = (2200 : Int)) → (x2.snd.snd = (1 : Int)))))))) → (((decide ((0 : Int) < x2.fst) = true) → (((decide (x2.snd.fst ≤ (2199 : Int)) = true) → (((decide ((12 : Int) < IntKind.i64.wrap (x2.snd.snd + (1 : Int))) = true) → (∃ (x3 : Int × Int × Int), ((IntKind.i64.wrap (x2.fst - (1 : Int)) = x3.fst) ∧ ((IntKind.i64.wrap (x2.snd.fst + (1 : Int)) = x3.snd.fst) ∧ (((1 : Int) = x3.snd.snd) ∧ ((y = y) ∧ ((m = m) ∧ ((d = d) ∧ (((0 : Int) = (0 : Int)) ∧ (((0 : Int) = (0 : Int)) ∧ (((0 : Int) = (0 : Int)) ∧ (((inSpan x3.snd.fst x3.snd.snd) ∧ (((12 : Int) * x3.snd.fst + x3.snd.snd - (1 : Int) + x3.fst = monthNo ((y, m, d), n)) ∧ (((((y, m, d), n).snd ≤ (0 : Int)) → (x3.fst = ((y, m, d), n).snd)) ∧ ((((0 : Int) ≤ ((y, m, d), n).snd) → (((0 : Int) ≤ x3.fst) ∧ (x3.fst ≤ ((y, m, d), n).snd))) ∧ (((1900 : Int) ≤ x3.snd.fst) ∧ ((x3.snd.fst = (2200 : Int)) → (x3.snd.snd = (1 : Int)))))))) ∧ ((x3.fst.toNat < x2.fst.toNat) ∧ (True)))))))))))))) ∧ ((decide ((12 : Int) < IntKind.i64.wrap (x2.snd.snd + (1 : Int))) = false) → (∃ (x4 : Int × Int × Int), ((IntKind.i64.wrap (x2.fst - (1 : Int)) = x4.fst) ∧ ((x2.snd.fst = x4.snd.fst) ∧ ((IntKind.i64.wrap (x2.snd.snd + (1 : Int)) = x4.snd.snd) ∧ ((y = y) ∧ ((m = m) ∧ ((d = d) ∧ (((0 : Int) = (0 : Int)) ∧ (((0 : Int) = (0 : Int)) ∧ (((0 : Int) = (0 : Int)) ∧ (((inSpan x4.snd.fst x4.snd.snd) ∧ (((12 : Int) * x4.snd.fst + x4.snd.snd - (1 : Int) + x4.fst = monthNo ((y, m, d), n)) ∧ (((((y, m, d), n).snd ≤ (0 : Int)) → (x4.fst = ((y, m, d), n).snd)) ∧ ((((0 : Int) ≤ ((y, m, d), n).snd) → (((0 : Int) ≤ x4.fst) ∧ (x4.fst ≤ ((y, m, d), n).snd))) ∧ (((1900 : Int) ≤ x4.snd.fst) ∧ ((x4.snd.fst = (2200 : Int)) → (x4.snd.snd = (1 : Int)))))))) ∧ ((x4.fst.toNat < x2.fst.toNat) ∧ (True)))))))))))))))) ∧ ((decide (x2.snd.fst ≤ (2199 : Int)) = false) → ((∃ (x5 : Int × Int × Int), ((x2.fst = x5.fst) ∧ ((x2.snd.fst = x5.snd.fst) ∧ ((x2.snd.snd = x5.snd.snd) ∧ ((y = y) ∧ ((m = m) ∧ ((d = d) ∧ (((0 : Int) = (0 : Int)) ∧ (((0 : Int) = (0 : Int)) ∧ (((0 : Int) = (0 : Int)) ∧ (((inSpan x5.snd.fst x5.snd.snd) ∧ (((12 : Int) * x5.snd.fst + x5.snd.snd - (1 : Int) + x5.fst = monthNo ((y, m, d), n)) ∧ ((x5.fst ≤ (0 : Int) ∨ (0 : Int) < x5.fst ∧ x5.snd.fst = (2200 : Int) ∧ x5.snd.snd = (1 : Int)) ∧ (((x5.snd.fst = (2200 : Int)) → ((x5.snd.snd = (1 : Int)) ∧ ((0 : Int) ≤ x5.fst))) ∧ (((x5.snd.fst = (1899 : Int)) → (x5.snd.snd = (12 : Int))) ∧ ((x5.fst < (0 : Int)) → (((y, m, d), n).snd ≤ x5.fst))))))) ∧ ((True) ∧ (True))))))))))))) ∧ (∀ (x6 : Int × Int × Int), (((inSpan x6.snd.fst x6.snd.snd) ∧ (((12 : Int) * x6.snd.fst + x6.snd.snd - (1 : Int) + x6.fst = monthNo ((y, m, d), n)) ∧ ((x6.fst ≤ (0 : Int) ∨ (0 : Int) < x6.fst ∧ x6.snd.fst = (2200 : Int) ∧ x6.snd.snd = (1 : Int)) ∧ (((x6.snd.fst = (2200 : Int)) → ((x6.snd.snd = (1 : Int)) ∧ ((0 : Int) ≤ x6.fst))) ∧ (((x6.snd.fst = (1899 : Int)) → (x6.snd.snd = (12 : Int))) ∧ ((x6.fst < (0 : Int)) → (((y, m, d), n).snd ≤ x6.fst))))))) → (((decide (x6.fst < (0 : Int)) = true) → (((decide ((1900 : Int) ≤ x6.snd.fst) = true) → (((decide (IntKind.i64.wrap (x6.snd.snd - (1 : Int)) < (1 : Int)) = true) → (∃ (x7 : Int × Int × Int), ((IntKind.i64.wrap (x6.fst + (1 : Int)) = x7.fst) ∧ ((IntKind.i64.wrap (x6.snd.fst - (1 : Int)) = x7.snd.fst) ∧ (((12 : Int) = x7.snd.snd) ∧ ((y = y) ∧ ((m = m) ∧ ((d = d) ∧ (((0 : Int) = (0 : Int)) ∧ (((0 : Int) = (0 : Int)) ∧ (((0 : Int) = (0 : Int)) ∧ (((inSpan x7.snd.fst x7.snd.snd) ∧ (((12 : Int) * x7.snd.fst + x7.snd.snd - (1 : Int) + x7.fst = monthNo ((y, m, d), n)) ∧ ((x7.fst ≤ (0 : Int) ∨ (0 : Int) < x7.fst ∧ x7.snd.fst = (2200 : Int) ∧ x7.snd.snd = (1 : Int)) ∧ (((x7.snd.fst = (2200 : Int)) → ((x7.snd.snd = (1 : Int)) ∧ ((0 : Int) ≤ x7.fst))) ∧ (((x7.snd.fst = (1899 : Int)) → (x7.snd.snd = (12 : Int))) ∧ ((x7.fst < (0 : Int)) → (((y, m, d), n).snd ≤ x7.fst))))))) ∧ ((((0 : Int) - x7.fst).toNat < ((0 : Int) - x6.fst).toNat) ∧ (True)))))))))))))) ∧ ((decide (IntKind.i64.wrap (x6.snd.snd - (1 : Int)) < (1 : Int)) = false) → (∃ (x8 : Int × Int × Int), ((IntKind.i64.wrap (x6.fst + (1 : Int)) = x8.fst) ∧ ((x6.snd.fst = x8.snd.fst) ∧ ((IntKind.i64.wrap (x6.snd.snd - (1 : Int)) = x8.snd.snd) ∧ ((y = y) ∧ ((m = m) ∧ ((d = d) ∧ (((0 : Int) = (0 : Int)) ∧ (((0 : Int) = (0 : Int)) ∧ (((0 : Int) = (0 : Int)) ∧ (((inSpan x8.snd.fst x8.snd.snd) ∧ (((12 : Int) * x8.snd.fst + x8.snd.snd - (1 : Int) + x8.fst = monthNo ((y, m, d), n)) ∧ ((x8.fst ≤ (0 : Int) ∨ (0 : Int) < x8.fst ∧ x8.snd.fst = (2200 : Int) ∧ x8.snd.snd = (1 : Int)) ∧ (((x8.snd.fst = (2200 : Int)) → ((x8.snd.snd = (1 : Int)) ∧ ((0 : Int) ≤ x8.fst))) ∧ (((x8.snd.fst = (1899 : Int)) → (x8.snd.snd = (12 : Int))) ∧ ((x8.fst < (0 : Int)) → (((y, m, d), n).snd ≤ x8.fst))))))) ∧ ((((0 : Int) - x8.fst).toNat < ((0 : Int) - x6.fst).toNat) ∧ (True)))))))))))))))) ∧ ((decide ((1900 : Int) ≤ x6.snd.fst) = false) → ((∃ (x9 : Int × Int × Int), ((x6.snd.fst = x9.snd.fst) ∧ ((x6.snd.snd = x9.snd.snd) ∧ ((d = x9.fst) ∧ ((y = y) ∧ ((m = m) ∧ ((d = d) ∧ (((0 : Int) = (0 : Int)) ∧ (((0 : Int) = (0 : Int)) ∧ (((0 : Int) = (0 : Int)) ∧ (((inSpan x9.snd.fst x9.snd.snd) ∧ ((x9.fst ≤ ((y, m, d), n).fst.snd.snd) ∧ ((min ((y, m, d), n).fst.snd.snd (28 : Int) ≤ x9.fst) ∧ ((min ((y, m, d), n).fst.snd.snd (lastS x9.snd.fst x9.snd.snd) ≤ x9.fst) ∧ ((22800 : Int) ≤ monthNo ((y, m, d), n) ∧ monthNo ((y, m, d), n) < (26400 : Int) ∧ x9.snd.fst = monthNo ((y, m, d), n) / (12 : Int) ∧ x9.snd.snd = monthNo ((y, m, d), n) % (12 : Int) + (1 : Int) ∨ monthNo ((y, m, d), n) < (22800 : Int) ∧ x9.snd.fst = (1899 : Int) ∧ x9.snd.snd = (12 : Int) ∨ (26400 : Int) ≤ monthNo ((y, m, d), n) ∧ x9.snd.fst = (2200 : Int) ∧ x9.snd.snd = (1 : Int)))))) ∧ ((True) ∧ (True))))))))))))) ∧ (∀ (x10 : Int × Int × Int), (((inSpan x10.snd.fst x10.snd.snd) ∧ ((x10.fst ≤ ((y, m, d), n).fst.snd.snd) ∧ ((min ((y, m, d), n).fst.snd.snd (28 : Int) ≤ x10.fst) ∧ ((min ((y, m, d), n).fst.snd.snd (lastS x10.snd.fst x10.snd.snd) ≤ x10.fst) ∧ ((22800 : Int) ≤ monthNo ((y, m, d), n) ∧ monthNo ((y, m, d), n) < (26400 : Int) ∧ x10.snd.fst = monthNo ((y, m, d), n) / (12 : Int) ∧ x10.snd.snd = monthNo ((y, m, d), n) % (12 : Int) + (1 : Int) ∨ monthNo ((y, m, d), n) < (22800 : Int) ∧ x10.snd.fst = (1899 : Int) ∧ x10.snd.snd = (12 : Int) ∨ (26400 : Int) ≤ monthNo ((y, m, d), n) ∧ x10.snd.fst = (2200 : Int) ∧ x10.snd.snd = (1 : Int)))))) → (((decide ((28 : Int) < x10.fst) = true) → (((decide (monthS x10.snd.fst x10.snd.snd < x10.fst) = true) → (∃ (x11 : Int × Int × Int), ((x10.snd.fst = x11.snd.fst) ∧ ((x10.snd.snd = x11.snd.snd) ∧ ((IntKind.i64.wrap (x10.fst - (1 : Int)) = x11.fst) ∧ ((y = y) ∧ ((m = m) ∧ ((d = d) ∧ (((0 : Int) = (0 : Int)) ∧ (((0 : Int) = (0 : Int)) ∧ (((0 : Int) = (0 : Int)) ∧ (((inSpan x11.snd.fst x11.snd.snd) ∧ ((x11.fst ≤ ((y, m, d), n).fst.snd.snd) ∧ ((min ((y, m, d), n).fst.snd.snd (28 : Int) ≤ x11.fst) ∧ ((min ((y, m, d), n).fst.snd.snd (lastS x11.snd.fst x11.snd.snd) ≤ x11.fst) ∧ ((22800 : Int) ≤ monthNo ((y, m, d), n) ∧ monthNo ((y, m, d), n) < (26400 : Int) ∧ x11.snd.fst = monthNo ((y, m, d), n) / (12 : Int) ∧ x11.snd.snd = monthNo ((y, m, d), n) % (12 : Int) + (1 : Int) ∨ monthNo ((y, m, d), n) < (22800 : Int) ∧ x11.snd.fst = (1899 : Int) ∧ x11.snd.snd = (12 : Int) ∨ (26400 : Int) ≤ monthNo ((y, m, d), n) ∧ x11.snd.fst = (2200 : Int) ∧ x11.snd.snd = (1 : Int)))))) ∧ ((x11.fst.toNat < x10.fst.toNat) ∧ (True)))))))))))))) ∧ ((decide (monthS x10.snd.fst x10.snd.snd < x10.fst) = false) → ((x10.snd.fst = (rmRes ((y, m, d), n)).fst) ∧ ((x10.snd.snd = (rmRes ((y, m, d), n)).snd.fst) ∧ ((x10.fst = (rmRes ((y, m, d), n)).snd.snd) ∧ ((rightS (x10.snd.fst, x10.snd.snd, x10.fst) = rmonthsOk ((y, m, d), n)) ∧ (True)))))))) ∧ ((decide ((28 : Int) < x10.fst) = false) → ((x10.snd.fst = (rmRes ((y, m, d), n)).fst) ∧ ((x10.snd.snd = (rmRes ((y, m, d), n)).snd.fst) ∧ ((x10.fst = (rmRes ((y, m, d), n)).snd.snd) ∧ ((rightS (x10.snd.fst, x10.snd.snd, x10.fst) = rmonthsOk ((y, m, d), n)) ∧ (True))))))))))))) ∧ ((decide (x6.fst < (0 : Int)) = false) → ((∃ (x12 : Int × Int × Int), ((x6.snd.fst = x12.snd.fst) ∧ ((x6.snd.snd = x12.snd.snd) ∧ ((d = x12.fst) ∧ ((y = y) ∧ ((m = m) ∧ ((d = d) ∧ (((0 : Int) = (0 : Int)) ∧ (((0 : Int) = (0 : Int)) ∧ (((0 : Int) = (0 : Int)) ∧ (((inSpan x12.snd.fst x12.snd.snd) ∧ ((x12.fst ≤ ((y, m, d), n).fst.snd.snd) ∧ ((min ((y, m, d), n).fst.snd.snd (28 : Int) ≤ x12.fst) ∧ ((min ((y, m, d), n).fst.snd.snd (lastS x12.snd.fst x12.snd.snd) ≤ x12.fst) ∧ ((22800 : Int) ≤ monthNo ((y, m, d), n) ∧ monthNo ((y, m, d), n) < (26400 : Int) ∧ x12.snd.fst = monthNo ((y, m, d), n) / (12 : Int) ∧ x12.snd.snd = monthNo ((y, m, d), n) % (12 : Int) + (1 : Int) ∨ monthNo ((y, m, d), n) < (22800 : Int) ∧ x12.snd.fst = (1899 : Int) ∧ x12.snd.snd = (12 : Int) ∨ (26400 : Int) ≤ monthNo ((y, m, d), n) ∧ x12.snd.fst = (2200 : Int) ∧ x12.snd.snd = (1 : Int)))))) ∧ ((True) ∧ (True))))))))))))) ∧ (∀ (x13 : Int × Int × Int), (((inSpan x13.snd.fst x13.snd.snd) ∧ ((x13.fst ≤ ((y, m, d), n).fst.snd.snd) ∧ ((min ((y, m, d), n).fst.snd.snd (28 : Int) ≤ x13.fst) ∧ ((min ((y, m, d), n).fst.snd.snd (lastS x13.snd.fst x13.snd.snd) ≤ x13.fst) ∧ ((22800 : Int) ≤ monthNo ((y, m, d), n) ∧ monthNo ((y, m, d), n) < (26400 : Int) ∧ x13.snd.fst = monthNo ((y, m, d), n) / (12 : Int) ∧ x13.snd.snd = monthNo ((y, m, d), n) % (12 : Int) + (1 : Int) ∨ monthNo ((y, m, d), n) < (22800 : Int) ∧ x13.snd.fst = (1899 : Int) ∧ x13.snd.snd = (12 : Int) ∨ (26400 : Int) ≤ monthNo ((y, m, d), n) ∧ x13.snd.fst = (2200 : Int) ∧ x13.snd.snd = (1 : Int)))))) → (((decide ((28 : Int) < x13.fst) = true) → (((decide (monthS x13.snd.fst x13.snd.snd < x13.fst) = true) → (∃ (x14 : Int × Int × Int), ((x13.snd.fst = x14.snd.fst) ∧ ((x13.snd.snd = x14.snd.snd) ∧ ((IntKind.i64.wrap (x13.fst - (1 : Int)) = x14.fst) ∧ ((y = y) ∧ ((m = m) ∧ ((d = d) ∧ (((0 : Int) = (0 : Int)) ∧ (((0 : Int) = (0 : Int)) ∧ (((0 : Int) = (0 : Int)) ∧ (((inSpan x14.snd.fst x14.snd.snd) ∧ ((x14.fst ≤ ((y, m, d), n).fst.snd.snd) ∧ ((min ((y, m, d), n).fst.snd.snd (28 : Int) ≤ x14.fst) ∧ ((min ((y, m, d), n).fst.snd.snd (lastS x14.snd.fst x14.snd.snd) ≤ x14.fst) ∧ ((22800 : Int) ≤ monthNo ((y, m, d), n) ∧ monthNo ((y, m, d), n) < (26400 : Int) ∧ x14.snd.fst = monthNo ((y, m, d), n) / (12 : Int) ∧ x14.snd.snd = monthNo ((y, m, d), n) % (12 : Int) + (1 : Int) ∨ monthNo ((y, m, d), n) < (22800 : Int) ∧ x14.snd.fst = (1899 : Int) ∧ x14.snd.snd = (12 : Int) ∨ (26400 : Int) ≤ monthNo ((y, m, d), n) ∧ x14.snd.fst = (2200 : Int) ∧ x14.snd.snd = (1 : Int)))))) ∧ ((x14.fst.toNat < x13.fst.toNat) ∧ (True)))))))))))))) ∧ ((decide (monthS x13.snd.fst x13.snd.snd < x13.fst) = false) → ((x13.snd.fst = (rmRes ((y, m, d), n)).fst) ∧ ((x13.snd.snd = (rmRes ((y, m, d), n)).snd.fst) ∧ ((x13.fst = (rmRes ((y, m, d), n)).snd.snd) ∧ ((rightS (x13.snd.fst, x13.snd.snd, x13.fst) = rmonthsOk ((y, m, d), n)) ∧ (True)))))))) ∧ ((decide ((28 : Int) < x13.fst) = false) → ((x13.snd.fst = (rmRes ((y, m, d), n)).fst) ∧ ((x13.snd.snd = (rmRes ((y, m, d), n)).snd.fst) ∧ ((x13.fst = (rmRes ((y, m, d), n)).snd.snd) ∧ ((rightS (x13.snd.fst, x13.snd.snd, x13.fst) = rmonthsOk ((y, m, d), n)) ∧ (True)))))))))))))))))) ∧ ((decide ((0 : Int) < x2.fst) = false) → ((∃ (x15 : Int × Int × Int), ((x2.fst = x15.fst) ∧ ((x2.snd.fst = x15.snd.fst) ∧ ((x2.snd.snd = x15.snd.snd) ∧ ((y = y) ∧ ((m = m) ∧ ((d = d) ∧ (((0 : Int) = (0 : Int)) ∧ (((0 : Int) = (0 : Int)) ∧ (((0 : Int) = (0 : Int)) ∧ (((inSpan x15.snd.fst x15.snd.snd) ∧ (((12 : Int) * x15.snd.fst + x15.snd.snd - (1 : Int) + x15.fst = monthNo ((y, m, d), n)) ∧ ((x15.fst ≤ (0 : Int) ∨ (0 : Int) < x15.fst ∧ x15.snd.fst = (2200 : Int) ∧ x15.snd.snd = (1 : Int)) ∧ (((x15.snd.fst = (2200 : Int)) → ((x15.snd.snd = (1 : Int)) ∧ ((0 : Int) ≤ x15.fst))) ∧ (((x15.snd.fst = (1899 : Int)) → (x15.snd.snd = (12 : Int))) ∧ ((x15.fst < (0 : Int)) → (((y, m, d), n).snd ≤ x15.fst))))))) ∧ ((True) ∧ (True))))))))))))) ∧ (∀ (x16 : Int × Int × Int), (((inSpan x16.snd.fst x16.snd.snd) ∧ (((12 : Int) * x16.snd.fst + x16.snd.snd - (1 : Int) + x16.fst = monthNo ((y, m, d), n)) ∧ ((x16.fst ≤ (0 : Int) ∨ (0 : Int) < x16.fst ∧ x16.snd.fst = (2200 : Int) ∧ x16.snd.snd = (1 : Int)) ∧ (((x16.snd.fst = (2200 : Int)) → ((x16.snd.snd = (1 : Int)) ∧ ((0 : Int) ≤ x16.fst))) ∧ (((x16.snd.fst = (1899 : Int)) → (x16.snd.snd = (12 : Int))) ∧ ((x16.fst < (0 : Int)) → (((y, m, d), n).snd ≤ x16.fst))))))) → (((decide (x16.fst < (0 : Int)) = true) → (((decide ((1900 : Int) ≤ x16.snd.fst) = true) → (((decide (IntKind.i64.wrap (x16.snd.snd - (1 : Int)) < (1 : Int)) = true) → (∃ (x17 : Int × Int × Int), ((IntKind.i64.wrap (x16.fst + (1 : Int)) = x17.fst) ∧ ((IntKind.i64.wrap (x16.snd.fst - (1 : Int)) = x17.snd.fst) ∧ (((12 : Int) = x17.snd.snd) ∧ ((y = y) ∧ ((m = m) ∧ ((d = d) ∧ (((0 : Int) = (0 : Int)) ∧ (((0 : Int) = (0 : Int)) ∧ (((0 : Int) = (0 : Int)) ∧ (((inSpan x17.snd.fst x17.snd.snd) ∧ (((12 : Int) * x17.snd.fst + x17.snd.snd - (1 : Int) + x17.fst = monthNo ((y, m, d), n)) ∧ ((x17.fst ≤ (0 : Int) ∨ (0 : Int) < x17.fst ∧ x17.snd.fst = (2200 : Int) ∧ x17.snd.snd = (1 : Int)) ∧ (((x17.snd.fst = (2200 : Int)) → ((x17.snd.snd = (1 : Int)) ∧ ((0 : Int) ≤ x17.fst))) ∧ (((x17.snd.fst = (1899 : Int)) → (x17.snd.snd = (12 : Int))) ∧ ((x17.fst < (0 : Int)) → (((y, m, d), n).snd ≤ x17.fst))))))) ∧ ((((0 : Int) - x17.fst).toNat < ((0 : Int) - x16.fst).toNat) ∧ (True)))))))))))))) ∧ ((decide (IntKind.i64.wrap (x16.snd.snd - (1 : Int)) < (1 : Int)) = false) → (∃ (x18 : Int × Int × Int), ((IntKind.i64.wrap (x16.fst + (1 : Int)) = x18.fst) ∧ ((x16.snd.fst = x18.snd.fst) ∧ ((IntKind.i64.wrap (x16.snd.snd - (1 : Int)) = x18.snd.snd) ∧ ((y = y) ∧ ((m = m) ∧ ((d = d) ∧ (((0 : Int) = (0 : Int)) ∧ (((0 : Int) = (0 : Int)) ∧ (((0 : Int) = (0 : Int)) ∧ (((inSpan x18.snd.fst x18.snd.snd) ∧ (((12 : Int) * x18.snd.fst + x18.snd.snd - (1 : Int) + x18.fst = monthNo ((y, m, d), n)) ∧ ((x18.fst ≤ (0 : Int) ∨ (0 : Int) < x18.fst ∧ x18.snd.fst = (2200 : Int) ∧ x18.snd.snd = (1 : Int)) ∧ (((x18.snd.fst = (2200 : Int)) → ((x18.snd.snd = (1 : Int)) ∧ ((0 : Int) ≤ x18.fst))) ∧ (((x18.snd.fst = (1899 : Int)) → (x18.snd.snd = (12 : Int))) ∧ ((x18.fst < (0 : Int)) → (((y, m, d), n).snd ≤ x18.fst))))))) ∧ ((((0 : Int) - x18.fst).toNat < ((0 : Int) - x16.fst).toNat) ∧ (True)))))))))))))))) ∧ ((decide ((1900 : Int) ≤ x16.snd.fst) = false) → ((∃ (x19 : Int × Int × Int), ((x16.snd.fst = x19.snd.fst) ∧ ((x16.snd.snd = x19.snd.snd) ∧ ((d = x19.fst) ∧ ((y = y) ∧ ((m = m) ∧ ((d = d) ∧ (((0 : Int) = (0 : Int)) ∧ (((0 : Int) = (0 : Int)) ∧ (((0 : Int) = (0 : Int)) ∧ (((inSpan x19.snd.fst x19.snd.snd) ∧ ((x19.fst ≤ ((y, m, d), n).fst.snd.snd) ∧ ((min ((y, m, d), n).fst.snd.snd (28 : Int) ≤ x19.fst) ∧ ((min ((y, m, d), n).fst.snd.snd (lastS x19.snd.fst x19.snd.snd) ≤ x19.fst) ∧ ((22800 : Int) ≤ monthNo ((y, m, d), n) ∧ monthNo ((y, m, d), n) < (26400 : Int) ∧ x19.snd.fst = monthNo ((y, m, d), n) / (12 : Int) ∧ x19.snd.snd = monthNo ((y, m, d), n) % (12 : Int) + (1 : Int) ∨ monthNo ((y, m, d), n) < (22800 : Int) ∧ x19.snd.fst = (1899 : Int) ∧ x19.snd.snd = (12 : Int) ∨ (26400 : Int) ≤ monthNo ((y, m, d), n) ∧ x19.snd.fst = (2200 : Int) ∧ x19.snd.snd = (1 : Int)))))) ∧ ((True) ∧ (True))))))))))))) ∧ (∀ (x20 : Int × Int × Int), (((inSpan x20.snd.fst x20.snd.snd) ∧ ((x20.fst ≤ ((y, m, d), n).fst.snd.snd) ∧ ((min ((y, m, d), n).fst.snd.snd (28 : Int) ≤ x20.fst) ∧ ((min ((y, m, d), n).fst.snd.snd (lastS x20.snd.fst x20.snd.snd) ≤ x20.fst) ∧ ((22800 : Int) ≤ monthNo ((y, m, d), n) ∧ monthNo ((y, m, d), n) < (26400 : Int) ∧ x20.snd.fst = monthNo ((y, m, d), n) / (12 : Int) ∧ x20.snd.snd = monthNo ((y, m, d), n) % (12 : Int) + (1 : Int) ∨ monthNo ((y, m, d), n) < (22800 : Int) ∧ x20.snd.fst = (1899 : Int) ∧ x20.snd.snd = (12 : Int) ∨ (26400 : Int) ≤ monthNo ((y, m, d), n) ∧ x20.snd.fst = (2200 : Int) ∧ x20.snd.snd = (1 : Int)))))) → (((decide ((28 : Int) < x20.fst) = true) → (((decide (monthS x20.snd.fst x20.snd.snd < x20.fst) = true) → (∃ (x21 : Int × Int × Int), ((x20.snd.fst = x21.snd.fst) ∧ ((x20.snd.snd = x21.snd.snd) ∧ ((IntKind.i64.wrap (x20.fst - (1 : Int)) = x21.fst) ∧ ((y = y) ∧ ((m = m) ∧ ((d = d) ∧ (((0 : Int) = (0 : Int)) ∧ (((0 : Int) = (0 : Int)) ∧ (((0 : Int) = (0 : Int)) ∧ (((inSpan x21.snd.fst x21.snd.snd) ∧ ((x21.fst ≤ ((y, m, d), n).fst.snd.snd) ∧ ((min ((y, m, d), n).fst.snd.snd (28 : Int) ≤ x21.fst) ∧ ((min ((y, m, d), n).fst.snd.snd (lastS x21.snd.fst x21.snd.snd) ≤ x21.fst) ∧ ((22800 : Int) ≤ monthNo ((y, m, d), n) ∧ monthNo ((y, m, d), n) < (26400 : Int) ∧ x21.snd.fst = monthNo ((y, m, d), n) / (12 : Int) ∧ x21.snd.snd = monthNo ((y, m, d), n) % (12 : Int) + (1 : Int) ∨ monthNo ((y, m, d), n) < (22800 : Int) ∧ x21.snd.fst = (1899 : Int) ∧ x21.snd.snd = (12 : Int) ∨ (26400 : Int) ≤ monthNo ((y, m, d), n) ∧ x21.snd.fst = (2200 : Int) ∧ x21.snd.snd = (1 : Int)))))) ∧ ((x21.fst.toNat < x20.fst.toNat) ∧ (True)))))))))))))) ∧ ((decide (monthS x20.snd.fst x20.snd.snd < x20.fst) = false) → ((x20.snd.fst = (rmRes ((y, m, d), n)).fst) ∧ ((x20.snd.snd = (rmRes ((y, m, d), n)).snd.fst) ∧ ((x20.fst = (rmRes ((y, m, d), n)).snd.snd) ∧ ((rightS (x20.snd.fst, x20.snd.snd, x20.fst) = rmonthsOk ((y, m, d), n)) ∧ (True)))))))) ∧ ((decide ((28 : Int) < x20.fst) = false) → ((x20.snd.fst = (rmRes ((y, m, d), n)).fst) ∧ ((x20.snd.snd = (rmRes ((y, m, d), n)).snd.fst) ∧ ((x20.fst = (rmRes ((y, m, d), n)).snd.snd) ∧ ((rightS (x20.snd.fst, x20.snd.snd, x20.fst) = rmonthsOk ((y, m, d), n)) ∧ (True))))))))))))) ∧ ((decide (x16.fst < (0 : Int)) = false) → ((∃ (x22 : Int × Int × Int), ((x16.snd.fst = x22.snd.fst) ∧ ((x16.snd.snd = x22.snd.snd) ∧ ((d = x22.fst) ∧ ((y = y) ∧ ((m = m) ∧ ((d = d) ∧ (((0 : Int) = (0 : Int)) ∧ (((0 : Int) = (0 : Int)) ∧ (((0 : Int) = (0 : Int)) ∧ (((inSpan x22.snd.fst x22.snd.snd) ∧ ((x22.fst ≤ ((y, m, d), n).fst.snd.snd) ∧ ((min ((y, m, d), n).fst.snd.snd (28 : Int) ≤ x22.fst) ∧ ((min ((y, m, d), n).fst.snd.snd (lastS x22.snd.fst x22.snd.snd) ≤ x22.fst) ∧ ((22800 : Int) ≤ monthNo ((y, m, d), n) ∧ monthNo ((y, m, d), n) < (26400 : Int) ∧ x22.snd.fst = monthNo ((y, m, d), n) / (12 : Int) ∧ x22.snd.snd = monthNo ((y, m, d), n) % (12 : Int) + (1 : Int) ∨ monthNo ((y, m, d), n) < (22800 : Int) ∧ x22.snd.fst = (1899 : Int) ∧ x22.snd.snd = (12 : Int) ∨ (26400 : Int) ≤ monthNo ((y, m, d), n) ∧ x22.snd.fst = (2200 : Int) ∧ x22.snd.snd = (1 : Int)))))) ∧ ((True) ∧ (True))))))))))))) ∧ (∀ (x23 : Int × Int × Int), (((inSpan x23.snd.fst x23.snd.snd) ∧ ((x23.fst ≤ ((y, m, d), n).fst.snd.snd) ∧ ((min ((y, m, d), n).fst.snd.snd (28 : Int) ≤ x23.fst) ∧ ((min ((y, m, d), n).fst.snd.snd (lastS x23.snd.fst x23.snd.snd) ≤ x23.fst) ∧ ((22800 : Int) ≤ monthNo ((y, m, d), n) ∧ monthNo ((y, m, d), n) < (26400 : Int) ∧ x23.snd.fst = monthNo ((y, m, d), n) / (12 : Int) ∧ x23.snd.snd = monthNo ((y, m, d), n) % (12 : Int) + (1 : Int) ∨ monthNo ((y, m, d), n) < (22800 : Int) ∧ x23.snd.fst = (1899 : Int) ∧ x23.snd.snd = (12 : Int) ∨ (26400 : Int) ≤ monthNo ((y, m, d), n) ∧ x23.snd.fst = (2200 : Int) ∧ x23.snd.snd = (1 : Int)))))) → (((decide ((28 : Int) < x23.fst) = true) → (((decide (monthS x23.snd.fst x23.snd.snd < x23.fst) = true) → (∃ (x24 : Int × Int × Int), ((x23.snd.fst = x24.snd.fst) ∧ ((x23.snd.snd = x24.snd.snd) ∧ ((IntKind.i64.wrap (x23.fst - (1 : Int)) = x24.fst) ∧ ((y = y) ∧ ((m = m) ∧ ((d = d) ∧ (((0 : Int) = (0 : Int)) ∧ (((0 : Int) = (0 : Int)) ∧ (((0 : Int) = (0 : Int)) ∧ (((inSpan x24.snd.fst x24.snd.snd) ∧ ((x24.fst ≤ ((y, m, d), n).fst.snd.snd) ∧ ((min ((y, m, d), n).fst.snd.snd (28 : Int) ≤ x24.fst) ∧ ((min ((y, m, d), n).fst.snd.snd (lastS x24.snd.fst x24.snd.snd) ≤ x24.fst) ∧ ((22800 : Int) ≤ monthNo ((y, m, d), n) ∧ monthNo ((y, m, d), n) < (26400 : Int) ∧ x24.snd.fst = monthNo ((y, m, d), n) / (12 : Int) ∧ x24.snd.snd = monthNo ((y, m, d), n) % (12 : Int) + (1 : Int) ∨ monthNo ((y, m, d), n) < (22800 : Int) ∧ x24.snd.fst = (1899 : Int) ∧ x24.snd.snd = (12 : Int) ∨ (26400 : Int) ≤ monthNo ((y, m, d), n) ∧ x24.snd.fst = (2200 : Int) ∧ x24.snd.snd = (1 : Int)))))) ∧ ((x24.fst.toNat < x23.fst.toNat) ∧ (True)))))))))))))) ∧ ((decide (monthS x23.snd.fst x23.snd.snd < x23.fst) = false) → ((x23.snd.fst = (rmRes ((y, m, d), n)).fst) ∧ ((x23.snd.snd = (rmRes ((y, m, d), n)).snd.fst) ∧ ((x23.fst = (rmRes ((y, m, d), n)).snd.snd) ∧ ((rightS (x23.snd.fst, x23.snd.snd, x23.fst) = rmonthsOk ((y, m, d), n)) ∧ (True)))))))) ∧ ((decide ((28 : Int) < x23.fst) = false) → ((x23.snd.fst = (rmRes ((y, m, d), n)).fst) ∧ ((x23.snd.snd = (rmRes ((y, m, d), n)).snd.fst) ∧ ((x23.fst = (rmRes ((y, m, d), n)).snd.snd) ∧ ((rightS (x23.snd.fst, x23.snd.snd, x23.fst) = rmonthsOk ((y, m, d), n)) ∧ (True))))))))))))))))))))))) := by kernel_rfl
theorem tm0 (y n : Int) : y.tmod n = 0 ↔ y % n = 0 := ⟨fun h => Int.emod_eq_zero_of_dvd (Int.dvd_of_tmod_eq_zero h), fun h => Int.tmod_eq_zero_of_dvd (Int.dvd_of_emod_eq_zero h)⟩

theorem dleap_known : Known Try.prog 47 dleapC := by
  refine known1 (nt := 16) (An := fun y => noAnn) (labs := []) (lit := false) (em := em_dleap) sh_dleap_le (by kernel_rfl) mixedT tyT_ok .nil Try.func47 (by kernel_rfl) (fun a => by kernel_rfl) (fun a => by rfl) (fun y ha => ?_)
  refine ⟨_, vc_dleap y, ?_⟩
  repeat' first | exact trivial | apply And.intro | apply Ob.mk | intro _
  all_goals simp_all [leapS, tm0]

theorem dlong_known : Known Try.prog 37 dlongC := by
  refine known1 (nt := 16) (An := fun y => noAnn) (labs := []) (lit := false) (em := em_dlong) sh_dlong_le (by kernel_rfl) mixedT tyT_ok .nil Try.func37 (by kernel_rfl) (fun a => by kernel_rfl) (fun a => by rfl) (fun y ha => ?_)
  refine ⟨_, vc_dlong y, ?_⟩
  repeat' first | exact trivial | apply And.intro | apply Ob.mk | intro _
  all_goals simp_all [longS, leapS, tm0]
  all_goals omega

theorem dlast_known : Known Try.prog 48 dlastC := by
  refine known1 (nt := 29) (An := fun (y, m) => noAnn) (labs := []) (lit := false) (em := em_dlast) sh_dlast_le (by kernel_rfl) mixedT tyT_ok (.cons dleap_known .nil) Try.func48 (by kernel_rfl) (fun a => by obtain ⟨y, m⟩ := a; kernel_rfl) (fun a => by obtain ⟨y, m⟩ := a; rfl) (fun a ha => ?_)
  obtain ⟨y, m⟩ := a
  refine ⟨_, vc_dlast y m, ?_⟩
  repeat' first | exact trivial | apply And.intro | apply Ob.mk | intro _
  all_goals simp only [decide_eq_true_eq, decide_eq_false_iff_not] at *
  all_goals simp_all [lastS]
  all_goals omega

theorem longS_or (y : Int) : longS y = 365 ∨ longS y = 366 := by unfold longS; split <;> simp

theorem dmonth_known : Known Try.prog 23 dmonthC := by
  refine known1 (nt := 29) (An := fun (y, m) => noAnn) (labs := []) (lit := false) (em := em_dmonth) sh_dmonth_le (by kernel_rfl) mixedT tyT_ok (.cons dlong_known .nil) Try.func23 (by kernel_rfl) (fun a => by obtain ⟨y, m⟩ := a; kernel_rfl) (fun a => by obtain ⟨y, m⟩ := a; rfl) (fun a ha => ?_)
  obtain ⟨y, m⟩ := a
  refine ⟨_, vc_dmonth y m, ?_⟩
  have hl := longS_or y
  repeat' first | exact trivial | apply And.intro | apply Ob.mk | intro _
  all_goals simp only [decide_eq_true_eq, decide_eq_false_iff_not, List.length_cons, List.length_nil] at *
  all_goals try (rw [IntWalk.i64_in _ (by omega)])
  all_goals try omega
  all_goals try (unfold monthS; rw [if_pos (by omega)])
  rw [IntWalk.i64_in (m - 1) (by omega)]
  unfold monthS
  rw [if_neg (by omega)]
  obtain ⟨k, rfl⟩ : ∃ k : Nat, m = k + 1 := ⟨(m - 1).toNat, by omega⟩
  have hk : k < 12 := by omega
  have e : ((k : Int) + 1 - 1).toNat = k := by omega
  rw [e]
  match k, hk with
  | 0, _ | 1, _ | 2, _ | 3, _ | 4, _ | 5, _ | 6, _ | 7, _ | 8, _ | 9, _ | 10, _ | 11, _ => rfl
  | k + 12, hk => omega

theorem monthS_eq (y m : Int) : monthS y m = lastS y m := by
  unfold monthS lastS
  by_cases h : m < 1 ∨ 12 < m ∨ y < 1900 ∨ 2199 < y
  · rw [if_pos h]
    by_cases h2 : y < 1900 ∨ 2199 < y
    · rw [if_pos h2]
    · rw [if_neg h2, if_neg (by omega), if_neg (by omega), if_neg (by omega)]
  · rw [if_neg h, if_neg (by omega)]
    obtain ⟨k, rfl⟩ : ∃ k : Nat, m = k + 1 := ⟨(m - 1).toNat, by omega⟩
    have hk : k < 12 := by omega
    have e : ((k : Int) + 1 - 1).toNat = k := by omega
    rw [e]
    match k, hk with
    | 0, _ | 2, _ | 3, _ | 4, _ | 5, _ | 6, _ | 7, _ | 8, _ | 9, _ | 10, _ | 11, _ => rfl
    | 1, _ => simp [longS]; split <;> rfl
    | k + 12, hk => omega

theorem dright_known : Known Try.prog 44 drightC := by
  refine known1 (nt := 16) (An := fun (y, m, d) => noAnn) (labs := []) (lit := false) (em := em_dright) sh_dright_le (by kernel_rfl) mixedT tyT_ok (.cons dlast_known .nil) Try.func44 (by kernel_rfl) (fun a => by obtain ⟨y, m, d⟩ := a; kernel_rfl) (fun a => by obtain ⟨y, m, d⟩ := a; rfl) (fun a ha => ?_)
  obtain ⟨y, m, d⟩ := a
  refine ⟨_, vc_dright y m d, ?_⟩
  repeat' first | exact trivial | apply And.intro | apply Ob.mk | intro _
  all_goals simp_all [rightS]
  all_goals omega

theorem drright_known : Known Try.prog 36 drrightC := by
  refine known1 (nt := 16) (An := fun (y, m, d) => noAnn) (labs := []) (lit := false) (em := em_drright) sh_drright_le (by kernel_rfl) mixedT tyT_ok (.cons dmonth_known .nil) Try.func36 (by kernel_rfl) (fun a => by obtain ⟨y, m, d⟩ := a; kernel_rfl) (fun a => by obtain ⟨y, m, d⟩ := a; rfl) (fun a ha => ?_)
  obtain ⟨y, m, d⟩ := a
  refine ⟨_, vc_drright y m d, ?_⟩
  repeat' first | exact trivial | apply And.intro | apply Ob.mk | intro _
  all_goals simp_all [rightS, monthS_eq]
  all_goals omega


theorem right_in {y m d : Int} (h : rightS (y, m, d) = true) : 1900 ≤ y ∧ y ≤ 2199 ∧ 1 ≤ m ∧ m ≤ 12 ∧ 1 ≤ d ∧ d ≤ lastS y m ∧ lastS y m ≤ 31 := by
  simp only [rightS, Bool.and_eq_true, decide_eq_true_eq] at h
  obtain ⟨h1, h2⟩ := h
  have : lastS y m ≤ 31 ∧ (1 ≤ lastS y m → 1900 ≤ y ∧ y ≤ 2199 ∧ 1 ≤ m ∧ m ≤ 12) := by
    unfold lastS
    split
    · omega
    · split
      · omega
      · split
        · omega
        · split
          · split <;> omega
          · omega
  omega

theorem dleaps_known : Known Try.prog 45 dleapsC := by
  refine known1 (nt := 14) (An := fun y => noAnn) (labs := []) (lit := false) (em := em_dleaps) sh_dleaps_le (by kernel_rfl) mixedT tyT_ok .nil Try.func45 (by kernel_rfl) (fun a => by kernel_rfl) (fun a => by rfl) (fun y ha => ?_)
  replace ha : 1900 ≤ y ∧ y ≤ 2200 := ha.out
  refine ⟨_, vc_dleaps y, ?_⟩
  obtain ⟨h1, h2⟩ := ha
  repeat' first | exact trivial | apply And.intro | apply Ob.mk | intro _
  any_goals omega
  unfold leapsS
  simp (disch := omega) only [IntWalk.i64_in, Int.tdiv_eq_ediv_of_nonneg]

theorem dbefore_known : Known Try.prog 46 dbeforeC := by
  refine known1 (nt := 14) (An := fun y => noAnn) (labs := []) (lit := false) (em := em_dbefore) sh_dbefore_le (by kernel_rfl) mixedT tyT_ok .nil Try.func46 (by kernel_rfl) (fun a => by kernel_rfl) (fun a => by rfl) (fun y ha => ?_)
  replace ha : 1 ≤ y ∧ y ≤ 12 := ha.out
  refine ⟨_, vc_dbefore y, ?_⟩
  obtain ⟨h1, h2⟩ := ha
  repeat' first | exact trivial | apply And.intro | apply Ob.mk | intro _
  all_goals simp only [decide_eq_true_eq, decide_eq_false_iff_not] at *
  any_goals omega
  · unfold beforeS
    rw [if_pos (by omega)]
    simp (disch := omega) only [IntWalk.i64_in, Int.tdiv_eq_ediv_of_nonneg]
  · unfold beforeS
    rw [if_neg (by omega)]
    simp (disch := omega) only [IntWalk.i64_in]


theorem dnumber_known : Known Try.prog 33 dnumberC := by
  refine known1 (nt := 37) (An := fun (y, m, d) => noAnn) (labs := []) (lit := false) (em := em_dnumber) sh_dnumber_le (by kernel_rfl) mixedT tyT_ok (.cons dright_known (.cons dleaps_known (.cons dbefore_known (.cons dleap_known .nil)))) Try.func33 (by kernel_rfl) (fun a => by obtain ⟨y, m, d⟩ := a; kernel_rfl) (fun a => by obtain ⟨y, m, d⟩ := a; rfl) (fun a ha => ?_)
  obtain ⟨y, m, d⟩ := a
  refine ⟨_, vc_dnumber y m d, ?_⟩
  try dsimp only
  have hr := @right_in y m d
  have e0 : leapsS 1900 = 460 := by decide
  cases hc : rightS (y, m, d) with
  | false => simp
  | true =>
    have hr := hr hc
    have hl : leapsS y = (y - 1) / 4 - (y - 1) / 100 + (y - 1) / 400 := rfl
    have hb : 0 ≤ beforeS m ∧ beforeS m ≤ 400 := by unfold beforeS; split <;> omega
    repeat' first | exact trivial | apply And.intro | apply Ob.mk | intro _
    all_goals simp only [decide_eq_true_eq, decide_eq_false_iff_not, Bool.not_true, Bool.false_eq_true] at *
    any_goals omega
    all_goals simp (disch := omega) only [IntWalk.i64_in, if_true, e0]
    all_goals simp only [numS, yearsS, monthsS]
    all_goals (split <;> first | omega | (exfalso; simp_all; done) | (exfalso; simp_all; omega))

theorem dweekday_known : Known Try.prog 43 dweekdayC := by
  refine known1 (nt := 14) (An := fun (y, m, d) => noAnn) (labs := []) (lit := false) (em := em_dweekday) sh_dweekday_le (by kernel_rfl) mixedT tyT_ok (.cons dnumber_known .nil) Try.func43 (by kernel_rfl) (fun a => by obtain ⟨y, m, d⟩ := a; kernel_rfl) (fun a => by obtain ⟨y, m, d⟩ := a; rfl) (fun a ha => ?_)
  obtain ⟨y, m, d⟩ := a
  refine ⟨_, vc_dweekday y m d, ?_⟩
  refine ⟨⟨by omega⟩, ?_, rfl, trivial⟩
  try dsimp only
  cases hc : rightS (y, m, d) with
  | false => rfl
  | true =>
    have hr := right_in hc
    have hn : 0 ≤ numS (y, m, d) := by
      simp only [numS, yearsS, monthsS, leapsS, beforeS]
      split <;> split <;> omega
    simp only [if_true]
    exact Int.tmod_eq_emod_of_nonneg hn


theorem years_next (y : Int) : yearsS (y + 1) = yearsS y + longS y := by
  simp only [yearsS, leapsS, longS, leapS, Bool.and_eq_true, Bool.or_eq_true, decide_eq_true_eq, Bool.not_eq_true', decide_eq_false_iff_not]
  split <;> omega

theorem months_next {y m : Int} (hy : 1900 ≤ y ∧ y ≤ 2199) (hm : 1 ≤ m ∧ m ≤ 11) : monthsS y (m + 1) = monthsS y m + lastS y m := by
  obtain ⟨k, rfl⟩ : ∃ k : Nat, m = k + 1 := ⟨(m - 1).toNat, by omega⟩
  have hk : k < 11 := by omega
  simp only [monthsS, lastS, if_neg (show ¬ (y < 1900 ∨ 2199 < y) by omega)]
  match k, hk with
  | 0, _ | 2, _ | 3, _ | 4, _ | 5, _ | 6, _ | 7, _ | 8, _ | 9, _ | 10, _ => cases leapS y <;> decide
  | 1, _ => cases leapS y <;> decide
  | k + 11, hk => omega

theorem yearsS_in {y : Int} (h : 1900 ≤ y ∧ y ≤ 2200) : 0 ≤ yearsS y ∧ yearsS y ≤ 120000 := by
  have e0 : leapsS 1900 = 460 := by decide
  simp only [yearsS, e0]
  simp only [leapsS]
  omega
theorem monthsS_in {y m : Int} (h : 1 ≤ m ∧ m ≤ 12) : 0 ≤ monthsS y m ∧ monthsS y m ≤ 400 := by
  simp only [monthsS, beforeS]
  split <;> split <;> omega
theorem monthsS_one (y : Int) : monthsS y 1 = 0 := by simp [monthsS, beforeS]
theorem yearsS_first : yearsS 1900 = 0 := by decide

theorem drnumber_known : Known Try.prog 15 drnumberC := by
  refine known1 (nt := 35) (An := fun (y, m, d) => (rnumAn (y, m, d))) (labs := []) (lit := false) (em := em_drnumber) sh_drnumber_le (by kernel_rfl) mixedT tyT_ok (.cons drright_known (.cons dlong_known (.cons dmonth_known .nil))) Try.func15 (by kernel_rfl) (fun a => by obtain ⟨y, m, d⟩ := a; kernel_rfl) (fun a => by obtain ⟨y, m, d⟩ := a; rfl) (fun a ha => ?_)
  obtain ⟨y, m, d⟩ := a
  refine ⟨_, vc_drnumber y m d, ?_⟩
  try dsimp only
  cases hc : rightS (y, m, d) with
  | false => simp
  | true =>
    have hr := right_in hc
    refine ⟨(fun h => nomatch h), fun _ => ⟨⟨1900, ?_, rfl, rfl, rfl, rfl, by omega, trivial, trivial⟩, fun x hx => ⟨fun h => ⟨x + 1, ?_, ?_, rfl, rfl, rfl, ?_, ?_, trivial⟩, fun h => ⟨⟨1, ?_, rfl, rfl, rfl, rfl, by omega, trivial, trivial⟩, fun k hk => ⟨fun h2 => ⟨k + 1, ?_, ?_, rfl, rfl, rfl, ?_, ?_, trivial⟩, fun h2 => ⟨?_, trivial⟩⟩⟩⟩⟩⟩
    all_goals try simp only [decide_eq_true_eq, decide_eq_false_iff_not] at *
    · rw [IntWalk.i64_in _ (by omega), yearsS_first, Int.add_zero]
    · have h1 := yearsS_in (y := x) (by omega)
      have h2 := longS_or x
      rw [IntWalk.i64_in _ (by omega), years_next]; omega
    · exact IntWalk.i64_in _ (by omega)
    · omega
    · omega
    · have : x = y := by omega
      subst this
      rw [monthsS_one, Int.add_zero]
    · have h1 := yearsS_in (y := y) (by omega)
      have h3 := monthsS_in (y := y) (m := k) (by omega)
      have h4 : monthS y k = lastS y k := monthS_eq y k
      have h5 : lastS y k ≤ 31 ∧ 0 ≤ lastS y k := by
        unfold lastS
        repeat' split
        all_goals omega
      rw [IntWalk.i64_in _ (by omega), months_next (by omega) (by omega), h4]; omega
    · exact IntWalk.i64_in _ (by omega)
    · omega
    · omega
    · have : k = m := by omega
      subst this
      rw [if_pos trivial]
      simp only [numS]
      omega



def lastB (l : Bool) (m : Nat) : Int := if m = 2 then (if l then 29 else 28) else if m = 4 ∨ m = 6 ∨ m = 9 ∨ m = 11 then 30 else 31
def monthsB (l : Bool) (m : Nat) : Int := beforeS m + (if 2 < m ∧ l = true then 1 else 0)
theorem lastS_B {y : Int} (_hy : 1900 ≤ y ∧ y ≤ 2199) {m : Nat} (hm : 1 ≤ m ∧ m ≤ 12) : lastS y m = lastB (leapS y) m := by
  simp only [lastS, if_neg (show ¬ (y < 1900 ∨ 2199 < y) by omega)]
  match m, hm with
  | 0, hm => omega
  | 1, _ | 3, _ | 4, _ | 5, _ | 6, _ | 7, _ | 8, _ | 9, _ | 10, _ | 11, _ | 12, _ => rfl
  | 2, _ => rfl
  | m + 13, hm => omega
theorem monthsS_B (y : Int) (m : Nat) : monthsS y m = monthsB (leapS y) m := by
  simp only [monthsS, monthsB]
  congr 1
  by_cases h : 2 < m
  · simp [h, show (2 : Int) < m by omega]
  · simp [h, show ¬ (2 : Int) < m by omega]
theorem months_less : ∀ l : Bool, ∀ i, i < 13 → ∀ j, j < 13 → 1 ≤ i → i < j → monthsB l i + lastB l i ≤ monthsB l j := by decide
theorem year_days : ∀ l : Bool, monthsB l 12 + 31 = if l = true then 366 else 365 := by decide

theorem right_of {y m d : Int} (h : 1 ≤ d ∧ d ≤ lastS y m) : rightS (y, m, d) = true := by
  simp only [rightS, Bool.and_eq_true, decide_eq_true_eq]; exact h

theorem years_less {y z : Int} (h : 1900 ≤ y ∧ y < z) : yearsS (y + 1) ≤ yearsS z := by
  simp only [yearsS, leapsS]; omega

theorem nat_of {m : Int} (h : 1 ≤ m ∧ m ≤ 12) : ∃ k : Nat, m = k ∧ 1 ≤ k ∧ k < 13 := ⟨m.toNat, by omega, by omega, by omega⟩

theorem months_end {y m : Int} (hy : 1900 ≤ y ∧ y ≤ 2199) (hm : 1 ≤ m ∧ m ≤ 12) : monthsS y m + lastS y m ≤ longS y := by
  obtain ⟨k, rfl, h1, h2⟩ := nat_of hm
  rw [monthsS_B, lastS_B hy (by omega)]
  have h3 := year_days (leapS y)
  have h4 : longS y = if leapS y = true then 366 else 365 := rfl
  rw [h4, ← h3]
  by_cases e : k = 12
  · subst e
    have : lastB (leapS y) 12 = 31 := rfl
    omega
  · have h5 := months_less (leapS y) k h2 12 (by omega) h1 (by omega)
    omega

theorem num_in {y m d : Int} (h : rightS (y, m, d) = true) : yearsS y + monthsS y m ≤ numS (y, m, d) ∧ numS (y, m, d) < yearsS y + monthsS y m + lastS y m ∧ numS (y, m, d) < yearsS (y + 1) := by
  obtain ⟨h1, h2, h3, h4, h5, h6, h7⟩ := right_in h
  have h8 := months_end (y := y) (m := m) ⟨h1, h2⟩ ⟨h3, h4⟩
  rw [years_next]
  simp only [numS]
  omega

theorem num_inj {y m d y' m' d' : Int} (h : rightS (y, m, d) = true) (h' : rightS (y', m', d') = true) (e : numS (y, m, d) = numS (y', m', d')) : (y, m, d) = (y', m', d') := by
  obtain ⟨h1, h2, h3, h4, h5, h6, h7⟩ := right_in h
  obtain ⟨g1, g2, g3, g4, g5, g6, g7⟩ := right_in h'
  obtain ⟨a1, a2, a3⟩ := num_in h
  obtain ⟨b1, b2, b3⟩ := num_in h'
  have m1 := monthsS_in (y := y) (m := m) ⟨h3, h4⟩
  have m2 := monthsS_in (y := y') (m := m') ⟨g3, g4⟩
  have hy : y = y' := by
    rcases Int.lt_trichotomy y y' with hlt | he | hlt
    · have := years_less (y := y) (z := y') ⟨h1, hlt⟩; omega
    · exact he
    · have := years_less (y := y') (z := y) ⟨g1, hlt⟩; omega
  subst hy
  have hm : m = m' := by
    obtain ⟨k, rfl, k1, k2⟩ := nat_of ⟨h3, h4⟩
    obtain ⟨j, rfl, j1, j2⟩ := nat_of ⟨g3, g4⟩
    rw [monthsS_B, lastS_B ⟨h1, h2⟩ (by omega)] at *
    rcases Nat.lt_trichotomy k j with hlt | he | hlt
    · have := months_less (leapS y) k k2 j j2 k1 hlt; omega
    · rw [he]
    · have := months_less (leapS y) j j2 k k2 j1 hlt
      omega
  subst hm
  have : d = d' := by simp only [numS] at e; omega
  rw [this]

theorem ofS_num {a : Int × Int × Int} (h : rightS a = true) : ofS (numS a) = a := by
  have hex : ∃ b, rightS b = true ∧ numS b = numS a := ⟨a, h, rfl⟩
  unfold ofS
  rw [dif_pos hex]
  obtain ⟨h1, h2⟩ := hex.choose_spec
  exact num_inj h1 h h2

theorem ofS_out {n : Int} (h : ¬ (0 ≤ n ∧ n < 109573)) : ofS n = (0, 0, 0) := by
  unfold ofS
  rw [dif_neg]
  rintro ⟨⟨y, m, d⟩, h1, rfl⟩
  obtain ⟨h2, h3, h4, h5, h6, h7, h8⟩ := right_in h1
  obtain ⟨a1, a2, a3⟩ := num_in h1
  have m1 := monthsS_in (y := y) (m := m) ⟨h4, h5⟩
  have y1 := yearsS_in (y := y) ⟨h2, by omega⟩
  have y2 : yearsS (y + 1) ≤ 109573 := by
    have e : yearsS 2200 = 109573 := by decide
    rw [← e]
    exact years_less ⟨h2, by omega⟩
  omega

/-- In a month, and on to the next one. -/
theorem of_step {n y m : Int} (h : inYear n y ∧ inMonth n y m) :
    (lastS y m ≤ n - yearsS y - monthsS y m → m ≤ 11 ∧ monthsS y (m + 1) = monthsS y m + lastS y m ∧ inMonth n y (m + 1)) ∧
    (¬ lastS y m ≤ n - yearsS y - monthsS y m → ofS n = (y, m, 1 + (n - yearsS y - monthsS y m)) ∧ thereS n = true) ∧ 0 ≤ n - yearsS y - monthsS y m ∧ n - yearsS y - monthsS y m ≤ 400 ∧ 0 ≤ lastS y m ∧ lastS y m ≤ 31 := by
  obtain ⟨⟨h1, h2, h3, h4⟩, h5, h6, h7⟩ := h
  have hm := monthsS_in (y := y) (m := m) ⟨h5, h6⟩
  have hl := longS_or y
  have hlast : lastS y m ≤ 31 ∧ 0 ≤ lastS y m := by
    unfold lastS
    repeat' split
    all_goals omega
  rw [years_next] at h4
  refine ⟨fun h => ?_, fun h => ?_, by omega, by omega, by omega, by omega⟩
  · have hm11 : m ≤ 11 := by
      apply Classical.byContradiction
      intro hc
      have : m = 12 := by omega
      subst this
      have e1 : monthsS y 12 = monthsB (leapS y) 12 := monthsS_B y 12
      have e2 : lastS y 12 = 31 := lastS_B (m := 12) ⟨h1, h2⟩ (by omega)
      have e3 := year_days (leapS y)
      have e4 : longS y = if leapS y = true then 366 else 365 := rfl
      omega
    have hn := months_next (y := y) (m := m) ⟨h1, h2⟩ ⟨h5, hm11⟩
    exact ⟨hm11, hn, by omega, by omega, by omega⟩
  · have hr : rightS (y, m, 1 + (n - yearsS y - monthsS y m)) = true := right_of (by omega)
    have e : numS (y, m, 1 + (n - yearsS y - monthsS y m)) = n := by simp only [numS]; omega
    refine ⟨by have := ofS_num hr; rw [e] at this; exact this, ?_⟩
    have y1 := yearsS_in (y := y) ⟨h1, by omega⟩
    have y2 : yearsS (y + 1) ≤ 109573 := by
      have e : yearsS 2200 = 109573 := by decide
      rw [← e]
      exact years_less ⟨h1, by omega⟩
    rw [years_next] at y2
    simp only [thereS, Bool.and_eq_true, decide_eq_true_eq]
    omega

theorem thereS_no {n : Int} (h : ¬ (0 ≤ n ∧ n < 109573)) : thereS n = false := by
  simp only [thereS, Bool.and_eq_false_iff, decide_eq_false_iff_not]; omega

theorem wrapN {n : Int} (h : -9223372036854775808 ≤ n ∧ n ≤ 9223372036854775807) : IntKind.i64.wrap n = n := IntWalk.i64_in n h

theorem first_of {y : Int} (h : 1900 ≤ y ∧ y ≤ 2199) : rightS (y, 1, 1) = true ∧ numS (y, 1, 1) = yearsS y := by
  refine ⟨right_of ?_, ?_⟩
  · have : lastS y 1 = 31 := lastS_B (m := 1) h (by omega)
    omega
  · simp only [numS, monthsS_one]; omega

theorem dof_known : Known Try.prog 39 dofC := by
  refine known1 (nt := 71) (An := fun n => (ofAn n)) (labs := []) (lit := false) (em := em_dof) sh_dof_le (by kernel_rfl) mixedT tyT_ok (.cons dnumber_known (.cons dlast_known .nil)) Try.func39 (by kernel_rfl) (fun a => by kernel_rfl) (fun a => by rfl) (fun n ha => ?_)
  refine ⟨_, vc_dof n, ?_⟩
  refine ⟨fun h => ?_, fun h => ⟨fun h2 => ?_, fun h2 => ⟨⟨by omega⟩, ⟨1900 + n / 366, rfl, rfl, rfl, rfl, ?_, rfl, rfl, ?_, trivial, trivial⟩, fun y hy => ⟨fun h3 => ⟨fun h4 => ⟨⟨(y, 1), ?_, rfl, rfl, rfl, rfl, rfl, rfl, ?_, trivial, trivial⟩, fun z hz => ⟨fun h5 => ⟨(z.1, z.2 + 1), ?_, rfl, rfl, rfl, rfl, ?_, rfl, ?_, ?_, trivial⟩, fun h5 => ?_⟩⟩, fun h4 => ⟨y + 1, rfl, rfl, rfl, rfl, ?_, rfl, rfl, ?_, ?_, trivial⟩⟩,
    fun h3 => ⟨⟨(y, 1), ?_, rfl, rfl, rfl, rfl, rfl, rfl, ?_, trivial, trivial⟩, fun z hz => ⟨fun h5 => ⟨(z.1, z.2 + 1), ?_, rfl, rfl, rfl, rfl, ?_, rfl, ?_, ?_, trivial⟩, fun h5 => ?_⟩⟩⟩⟩⟩⟩
  all_goals try simp only [decide_eq_true_eq, decide_eq_false_iff_not] at *
  · rw [ofS_out (by omega), thereS_no (by omega)]; exact ⟨rfl, rfl, rfl, rfl, trivial⟩
  · rw [ofS_out (by omega), thereS_no (by omega)]; exact ⟨rfl, rfl, rfl, rfl, trivial⟩
  · rw [Int.tdiv_eq_ediv_of_nonneg (by omega), wrapN (n := n / 366) (by omega), wrapN (by omega)]
  · refine ⟨by omega, by omega, ?_⟩
    have e0 : leapsS 1900 = 460 := by decide
    simp only [yearsS, e0]
    simp only [leapsS]
    omega
  · obtain ⟨f1, f2⟩ := first_of (y := y) (by omega)
    rw [f1, if_pos rfl, f2, monthsS_one, wrapN (by have := yearsS_in (y := y) (by omega); omega)]; omega
  · rw [wrapN (n := y + 1) (by omega)] at h4
    obtain ⟨f1, f2⟩ := first_of (y := y + 1) (by omega)
    rw [f1, if_pos rfl, f2] at h4
    exact ⟨⟨hy.1, hy.2.1, hy.2.2, h4⟩, by omega, by omega, by rw [monthsS_one]; omega⟩
  · obtain ⟨s1, s2, s3, s4, s5, s6⟩ := of_step hz
    obtain ⟨t1, t2, t3⟩ := s1 h5
    rw [wrapN (by omega), t2]; omega
  · exact wrapN (by have := hz.2.2.1; have := hz.2.1; omega)
  · exact ⟨hz.1, ((of_step hz).1 h5).2.2⟩
  · have := ((of_step hz).1 h5).1; omega
  · obtain ⟨s1, s2, s3, s4, s5, s6⟩ := of_step hz
    obtain ⟨t1, t2⟩ := s2 h5
    rw [t1, t2, wrapN (by omega)]
    exact ⟨rfl, rfl, rfl, rfl, trivial⟩
  · exact wrapN (by omega)
  · rw [wrapN (n := y + 1) (by omega)] at h4
    obtain ⟨f1, f2⟩ := first_of (y := y + 1) (by omega)
    rw [f1, if_pos rfl, f2] at h4
    exact ⟨by omega, by omega, by omega⟩
  · omega
  · obtain ⟨f1, f2⟩ := first_of (y := y) (by omega)
    rw [f1, if_pos rfl, f2, monthsS_one, wrapN (by have := yearsS_in (y := y) (by omega); omega)]; omega
  · have e : yearsS 2200 = 109573 := by decide
    have : y = 2199 := by omega
    subst this
    exact ⟨⟨hy.1, hy.2.1, hy.2.2, by show n < yearsS 2200; omega⟩, by omega, by omega, by rw [monthsS_one]; omega⟩
  · obtain ⟨s1, s2, s3, s4, s5, s6⟩ := of_step hz
    obtain ⟨t1, t2, t3⟩ := s1 h5
    rw [wrapN (by omega), t2]; omega
  · exact wrapN (by have := hz.2.2.1; have := hz.2.1; omega)
  · exact ⟨hz.1, ((of_step hz).1 h5).2.2⟩
  · have := ((of_step hz).1 h5).1; omega
  · obtain ⟨s1, s2, s3, s4, s5, s6⟩ := of_step hz
    obtain ⟨t1, t2⟩ := s2 h5
    rw [t1, t2, wrapN (by omega)]
    exact ⟨rfl, rfl, rfl, rfl, trivial⟩

theorem drof_known : Known Try.prog 25 drofC := by
  refine known1 (nt := 39) (An := fun n => (rofAn n)) (labs := []) (lit := false) (em := em_drof) sh_drof_le (by kernel_rfl) mixedT tyT_ok (.cons dlong_known (.cons dmonth_known .nil)) Try.func25 (by kernel_rfl) (fun a => by kernel_rfl) (fun a => by rfl) (fun n ha => ?_)
  replace ha : inR n := ha.out
  refine ⟨_, vc_drof n, ?_⟩
  obtain ⟨hn0, hn1⟩ : inR n := ha
  have e22 : yearsS 2200 = 109573 := by decide
  refine ⟨fun h => ?_, fun h => ⟨⟨1900, ?_, rfl, rfl, rfl, rfl, ?_, trivial, trivial⟩, fun y hy => ⟨fun h3 => ⟨fun h4 => ⟨y + 1, ?_, ?_, rfl, rfl, rfl, ?_, ?_, trivial⟩, fun h4 => ⟨⟨(y, 1), ?_, rfl, rfl, rfl, rfl, rfl, ?_, trivial, trivial⟩,
    fun z hz => ⟨fun h5 => ⟨(z.1, z.2 + 1), ?_, rfl, ?_, rfl, rfl, rfl, ?_, ?_, trivial⟩, fun h5 => ?_⟩⟩⟩, fun h3 => ?_⟩⟩⟩
  all_goals try simp only [decide_eq_true_eq, decide_eq_false_iff_not] at *
  · rw [ofS_out (by omega), thereS_no (by omega)]; exact ⟨rfl, rfl, rfl, rfl, trivial⟩
  · rw [yearsS_first]; omega
  · exact ⟨by omega, by omega, by rw [yearsS_first]; omega⟩
  · have := yearsS_in (y := y) (by omega)
    have := longS_or y
    rw [years_next, wrapN (by omega)]; omega
  · exact wrapN (by omega)
  · exact ⟨by omega, by omega, by rw [years_next]; omega⟩
  · omega
  · rw [monthsS_one]; omega
  · exact ⟨⟨by omega, by omega, by omega, by rw [years_next]; omega⟩, by omega, by omega, by rw [monthsS_one]; omega⟩
  · obtain ⟨s1, s2, s3, s4, s5, s6⟩ := of_step hz
    rw [monthS_eq] at *
    obtain ⟨t1, t2, t3⟩ := s1 h5
    rw [wrapN (by omega), t2]; omega
  · exact wrapN (by have := hz.2.2.1; have := hz.2.1; omega)
  · rw [monthS_eq] at h5
    exact ⟨hz.1, ((of_step hz).1 h5).2.2⟩
  · rw [monthS_eq] at h5
    have := ((of_step hz).1 h5).1; omega
  · rw [monthS_eq] at h5
    obtain ⟨s1, s2, s3, s4, s5, s6⟩ := of_step hz
    obtain ⟨t1, t2⟩ := s2 h5
    rw [t1, t2, wrapN (by omega), Int.add_comm]
    exact ⟨rfl, rfl, rfl, rfl, trivial⟩
  · have : y = 2200 := by omega
    subst this
    rw [ofS_out (by omega), thereS_no (by omega)]; exact ⟨rfl, rfl, rfl, rfl, trivial⟩


theorem dbetween_known : Known Try.prog 16 dbetweenC := by
  refine known1 (nt := 29) (An := fun (y, m, d, y', m', d') => noAnn) (labs := []) (lit := false) (em := em_dbetween) sh_dbetween_le (by kernel_rfl) mixedT tyT_ok (.cons dnumber_known .nil) Try.func16 (by kernel_rfl) (fun a => by obtain ⟨y, m, d, y', m', d'⟩ := a; kernel_rfl) (fun a => by obtain ⟨y, m, d, y', m', d'⟩ := a; rfl) (fun a ha => ?_)
  obtain ⟨y, m, d, y', m', d'⟩ := a
  refine ⟨_, vc_dbetween y m d y' m' d', ?_⟩
  try dsimp only
  cases hc : rightS (y, m, d) <;> cases hc' : rightS (y', m', d') <;> simp [betweenOk, hc, hc']
  have h1 := num_in hc
  have h2 := num_in hc'
  have r1 := right_in hc
  have r2 := right_in hc'
  have y1 := yearsS_in (y := y) (by omega)
  have y2 := yearsS_in (y := y') (by omega)
  have y3 := yearsS_in (y := y + 1) (by omega)
  have y4 := yearsS_in (y := y' + 1) (by omega)
  have m1 := monthsS_in (y := y) (m := m) (by omega)
  have m2 := monthsS_in (y := y') (m := m') (by omega)
  exact wrapN (by omega)

theorem dcompare_known : Known Try.prog 26 dcompareC := by
  refine known1 (nt := 39) (An := fun (y, m, d, y', m', d') => (unrAn [(3000, (4, [22, 23], []))])) (labs := []) (lit := true) (em := em_dcompare) sh_dcompare_le (by kernel_rfl) mixedT tyT_ok .nil Try.func26 (by kernel_rfl) (fun a => by obtain ⟨y, m, d, y', m', d'⟩ := a; kernel_rfl) (fun a => by obtain ⟨y, m, d, y', m', d'⟩ := a; rfl) (fun a ha => ?_)
  obtain ⟨y, m, d, y', m', d'⟩ := a
  refine ⟨_, vc_dcompare y m d y' m' d', ?_⟩
  try dsimp only
  repeat' first | exact trivial | apply And.intro | apply Ob.mk | intro _
  all_goals try simp only [decide_eq_true_eq, decide_eq_false_iff_not] at *
  all_goals first | decide | (simp only [lexC]; repeat' split)
  all_goals omega

theorem dworkday_known : Known Try.prog 32 dworkdayC := by
  refine known1 (nt := 16) (An := fun (y, m, d) => noAnn) (labs := []) (lit := false) (em := em_dworkday) sh_dworkday_le (by kernel_rfl) mixedT tyT_ok (.cons dweekday_known .nil) Try.func32 (by kernel_rfl) (fun a => by obtain ⟨y, m, d⟩ := a; kernel_rfl) (fun a => by obtain ⟨y, m, d⟩ := a; rfl) (fun a ha => ?_)
  obtain ⟨y, m, d⟩ := a
  refine ⟨_, vc_dworkday y m d, ?_⟩
  try dsimp only
  cases hc : rightS (y, m, d) <;> simp [workS, hc]

theorem dadd_known : Known Try.prog 34 daddC := by
  refine known1 (nt := 30) (An := fun (y, m, d, n) => noAnn) (labs := []) (lit := false) (em := em_dadd) sh_dadd_le (by kernel_rfl) mixedT tyT_ok (.cons dnumber_known (.cons dof_known .nil)) Try.func34 (by kernel_rfl) (fun a => by obtain ⟨y, m, d, n⟩ := a; kernel_rfl) (fun a => by obtain ⟨y, m, d, n⟩ := a; rfl) (fun a ha => ?_)
  obtain ⟨y, m, d, n⟩ := a
  refine ⟨_, vc_dadd y m d n, ?_⟩
  try dsimp only
  cases hc : rightS (y, m, d) with
  | false => simp [addOk, hc]
  | true =>
    have h1 := num_in hc
    have r1 := right_in hc
    have y1 := yearsS_in (y := y) (by omega)
    have y3 := yearsS_in (y := y + 1) (by omega)
    have m1 := monthsS_in (y := y) (m := m) (by omega)
    simp only [addOk, hc, if_true, Bool.true_and, decide_true, Bool.not_true, Bool.false_eq_true, false_imp_iff, true_and, forall_const, decide_eq_true_eq, decide_eq_false_iff_not]
    refine ⟨fun h => ?_, fun h => ⟨fun h2 => ?_, fun h2 => ?_⟩⟩
    · rw [if_neg (by simp; omega), if_neg (by simp; omega)]; exact ⟨rfl, rfl, rfl, rfl, trivial⟩
    · rw [if_neg (by simp; omega), if_neg (by simp; omega)]; exact ⟨rfl, rfl, rfl, rfl, trivial⟩
    · rw [wrapN (by omega)]
      cases ht : thereS (numS (y, m, d) + n) with
      | true => simp [show -109573 ≤ n by omega, show n ≤ 109573 by omega]
      | false =>
        have : ofS (numS (y, m, d) + n) = (0, 0, 0) := ofS_out (by simp only [thereS, Bool.and_eq_false_iff, decide_eq_false_iff_not] at ht; omega)
        rw [this]
        simp

theorem dmonths_known : Known Try.prog 35 dmonthsC := by
  refine known1 (nt := 51) (An := fun (y, m, d, n) => noAnn) (labs := []) (lit := false) (em := em_dmonths) sh_dmonths_le (by kernel_rfl) mixedT tyT_ok (.cons dright_known (.cons dlast_known .nil)) Try.func35 (by kernel_rfl) (fun a => by obtain ⟨y, m, d, n⟩ := a; kernel_rfl) (fun a => by obtain ⟨y, m, d, n⟩ := a; rfl) (fun a ha => ?_)
  obtain ⟨y, m, d, n⟩ := a
  refine ⟨_, vc_dmonths y m d n, ?_⟩
  try dsimp only
  cases hc : rightS (y, m, d) with
  | false => simp [monthsOk, hc]
  | true =>
    have r1 := right_in hc
    by_cases hn : 3600 < n
    · have : monthsOk ((y, m, d), n) = false := by simp [monthsOk]; omega
      simp [this, hn]
    · by_cases hn2 : n < -3600
      · have : monthsOk ((y, m, d), n) = false := by simp [monthsOk]; omega
        simp [this, hn2, hn]
      · have e1 : IntKind.i64.wrap (IntKind.i64.wrap (IntKind.i64.wrap (IntKind.i64.wrap (12 * y) + m) - 1) + n) = 12 * y + m - 1 + n := by
          simp (disch := omega) only [wrapN]
        have hp : 0 ≤ 12 * y + m - 1 + n := by omega
        rw [e1, Int.tdiv_eq_ediv_of_nonneg hp, Int.tmod_eq_emod_of_nonneg hp, wrapN (n := (12 * y + m - 1 + n) / 12) (by omega), wrapN (n := (12 * y + m - 1 + n) % 12 + 1) (by omega)]
        have e2 : minV d (lastS ((12 * y + m - 1 + n) / 12) ((12 * y + m - 1 + n) % 12 + 1)) = min d (lastS ((12 * y + m - 1 + n) / 12) ((12 * y + m - 1 + n) % 12 + 1)) := by
          simp only [minV]; split <;> omega
        rw [e2]
        have e3 : ((12 * y + m - 1 + n) / 12, (12 * y + m - 1 + n) % 12 + 1, min d (lastS ((12 * y + m - 1 + n) / 12) ((12 * y + m - 1 + n) % 12 + 1))) = monthsOn ((y, m, d), n) := rfl
        rw [e3]
        have e4 : monthsOk ((y, m, d), n) = rightS (monthsOn ((y, m, d), n)) := by
          simp [monthsOk, hc, show -3600 ≤ n by omega, show n ≤ 3600 by omega]
        rw [e4]
        cases hr : rightS (monthsOn ((y, m, d), n)) <;> simp [hn, hn2, monthsOn]

theorem lastS_ge {y m : Int} (hy : 1900 ≤ y ∧ y ≤ 2199) (hm : 1 ≤ m ∧ m ≤ 12) : 28 ≤ lastS y m := by
  unfold lastS
  rw [if_neg (by omega)]
  repeat' split
  all_goals omega

theorem rm_end {y m d n M y' m' x : Int} (hc : rightS (y, m, d) = true) (hM : monthNo ((y, m, d), n) = M)
    (h : (1899 ≤ y' ∧ y' ≤ 2200 ∧ 1 ≤ m' ∧ m' ≤ 12) ∧ x ≤ d ∧ min d 28 ≤ x ∧ min d (lastS y' m') ≤ x ∧ (22800 ≤ M ∧ M < 26400 ∧ y' = M / 12 ∧ m' = M % 12 + 1 ∨ M < 22800 ∧ y' = 1899 ∧ m' = 12 ∨ 26400 ≤ M ∧ y' = 2200 ∧ m' = 1))
    (h2 : ¬ 28 < x ∨ ¬ lastS y' m' < x) : y' = (rmRes ((y, m, d), n)).1 ∧ m' = (rmRes ((y, m, d), n)).2.1 ∧ x = (rmRes ((y, m, d), n)).2.2 ∧ rightS (y', m', x) = rmonthsOk ((y, m, d), n) := by
  have r1 := right_in hc
  have hok : rmonthsOk ((y, m, d), n) = (decide (22800 ≤ M) && decide (M < 26400)) := by simp only [rmonthsOk, hc, Bool.true_and, hM]
  obtain ⟨h3, h4, h5, h6, h7⟩ := h
  unfold rmRes
  rcases h7 with ⟨q1, q2, rfl, rfl⟩ | ⟨q1, rfl, rfl⟩ | ⟨q1, rfl, rfl⟩
  · have hg := lastS_ge (y := M / 12) (m := M % 12 + 1) (by omega) (by omega)
    have ht : rmonthsOk ((y, m, d), n) = true := by rw [hok]; simp; omega
    rw [ht, if_pos rfl]
    have e : monthsOn ((y, m, d), n) = (M / 12, M % 12 + 1, min d (lastS (M / 12) (M % 12 + 1))) := by rw [← hM]; rfl
    rw [e]
    exact ⟨rfl, rfl, by dsimp only; omega, right_of (by omega)⟩
  · have ht : rmonthsOk ((y, m, d), n) = false := by rw [hok]; simp; omega
    have e0 : lastS 1899 12 = 0 := by decide
    rw [e0] at h2
    rw [ht, if_neg (by simp), hc, if_pos rfl, hM, if_pos q1]
    refine ⟨rfl, rfl, by dsimp only; omega, ?_⟩
    simp only [rightS, e0, Bool.and_eq_false_iff, decide_eq_false_iff_not]; omega
  · have ht : rmonthsOk ((y, m, d), n) = false := by rw [hok]; simp; omega
    have e0 : lastS 2200 1 = 0 := by decide
    rw [e0] at h2
    rw [ht, if_neg (by simp), hc, if_pos rfl, hM, if_neg (by omega)]
    refine ⟨rfl, rfl, by dsimp only; omega, ?_⟩
    simp only [rightS, e0, Bool.and_eq_false_iff, decide_eq_false_iff_not]; omega

set_option maxHeartbeats 4000000 in
theorem drmonths_known : Known Try.prog 12 drmonthsC := by
  refine known1 (nt := 66) (An := fun (y, m, d, n) => (rmAn ((y, m, d), n))) (labs := []) (lit := false) (em := em_drmonths) sh_drmonths_le (by kernel_rfl) mixedT tyT_ok (.cons drright_known (.cons dmonth_known .nil)) Try.func12 (by kernel_rfl) (fun a => by obtain ⟨y, m, d, n⟩ := a; kernel_rfl) (fun a => by obtain ⟨y, m, d, n⟩ := a; rfl) (fun a ha => ?_)
  obtain ⟨y, m, d, n⟩ := a
  replace ha : inR n := ha.out
  refine ⟨_, vc_drmonths y m d n, ?_⟩
  obtain ⟨hn0, hn1⟩ : inR n := ha
  try dsimp only at *
  cases hc : rightS (y, m, d) with
  | false =>
    have : rmonthsOk ((y, m, d), n) = false := by simp [rmonthsOk, hc]
    simp [this, rmRes, hc]
  | true =>
    have r1 := right_in hc
    have hno : monthNo ((y, m, d), n) = 12 * y + m - 1 + n := rfl
    have hok : rmonthsOk ((y, m, d), n) = (decide (22800 ≤ monthNo ((y, m, d), n)) && decide (monthNo ((y, m, d), n) < 26400)) := by simp only [rmonthsOk, hc, Bool.true_and]
    refine ⟨fun h => absurd h (by simp), fun _ => ?_⟩
    generalize hM : monthNo ((y, m, d), n) = M at *
    simp only [monthS_eq]
    simp only [inSpan] at *
    have hres : (if rmonthsOk ((y, m, d), n) = true then monthsOn ((y, m, d), n) else if True then if M < 22800 then ((1899 : Int), (12 : Int), min d 28) else (2200, 1, min d 28) else (0, 0, 0)) = rmRes ((y, m, d), n) := by
      simp only [rmRes, hc, hM]
    repeat' first | exact trivial | with_reducible exact rfl | apply And.intro | apply Ob.mk | (intro (x : Int × Int × Int); obtain ⟨_, _, _⟩ := x; dsimp only) | intro _ | refine Exists.intro (?_, ?_, ?_) ?_
    all_goals try dsimp only at *
    all_goals try simp only [decide_eq_true_eq, decide_eq_false_iff_not] at *
    all_goals first | omega | (simp (disch := omega) only [wrapN] at *; omega) | skip
    all_goals try rw [hres]
    all_goals first
      | exact (rm_end hc hM (by assumption) (by first | exact .inl (by assumption) | exact .inr (by assumption))).1
      | exact (rm_end hc hM (by assumption) (by first | exact .inl (by assumption) | exact .inr (by assumption))).2.1
      | exact (rm_end hc hM (by assumption) (by first | exact .inl (by assumption) | exact .inr (by assumption))).2.2.1
      | exact (rm_end hc hM (by assumption) (by first | exact .inl (by assumption) | exact .inr (by assumption))).2.2.2

theorem mok_eq (a : (Int × Int × Int) × Int) : monthsOk a = rmonthsOk a := by
  obtain ⟨⟨y, m, d⟩, n⟩ := a
  cases hc : rightS (y, m, d) with
  | false => simp [monthsOk, rmonthsOk, hc]
  | true =>
    have r1 := right_in hc
    have e : monthsOn ((y, m, d), n) = ((12 * y + m - 1 + n) / 12, (12 * y + m - 1 + n) % 12 + 1, min d (lastS ((12 * y + m - 1 + n) / 12) ((12 * y + m - 1 + n) % 12 + 1))) := rfl
    simp only [monthsOk, rmonthsOk, hc, Bool.true_and, monthNo, e]
    by_cases h : 22800 ≤ 12 * y + m - 1 + n ∧ 12 * y + m - 1 + n < 26400
    · have hg := lastS_ge (y := (12 * y + m - 1 + n) / 12) (m := (12 * y + m - 1 + n) % 12 + 1) (by omega) (by omega)
      rw [right_of (by omega)]
      simp [h, show -3600 ≤ n by omega, show n ≤ 3600 by omega]
    · have e0 : lastS ((12 * y + m - 1 + n) / 12) ((12 * y + m - 1 + n) % 12 + 1) = 0 := by
        unfold lastS
        rw [if_pos (by omega)]
      have : rightS ((12 * y + m - 1 + n) / 12, (12 * y + m - 1 + n) % 12 + 1, min d (lastS ((12 * y + m - 1 + n) / 12) ((12 * y + m - 1 + n) % 12 + 1))) = false := by
        simp only [rightS, e0, Bool.and_eq_false_iff, decide_eq_false_iff_not]; omega
      have h2 : (decide (22800 ≤ 12 * y + m - 1 + n) && decide (12 * y + m - 1 + n < 26400)) = false := by
        simp only [Bool.and_eq_false_iff, decide_eq_false_iff_not]; omega
      rw [this, Bool.and_false]
      exact h2.symm

end Go.Rx
