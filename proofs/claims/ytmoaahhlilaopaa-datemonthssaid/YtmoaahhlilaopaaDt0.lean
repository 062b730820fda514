/- The chapter of days: its tables. -/
import Derived.Test.YtmoaahhlilaopaaFw23
import Derived.Test.YtmoaahhlilaopaaProg
namespace Go.Rx
open Go.Proofs

def ty3 : List (Nat × TyL) := [
  (3, ⟨.int .i64, [.int .i64], 8, [.int .i64 0], false⟩),
  (4, ⟨.bool, [.bool], 1, [.ff], false⟩),
  (5, ⟨.int .u8, [.int .u8], 1, [.int .u8 0], false⟩),
  (9, ⟨.str, [.str], 16, [.str []], false⟩),
  (23, ⟨.struct [(0, 3), (1, 3), (2, 3)], [.int .i64, .int .i64, .int .i64], 24, [.int .i64 0, .int .i64 0, .int .i64 0], true⟩),
  (25, ⟨.int .i64, [.int .i64], 8, [.int .i64 0], false⟩),
  (47, ⟨.sl 3, [.sl [.int .i64]], 24, [.nilsl], false⟩),
  (49, ⟨.arr 3 3, [.int .i64, .int .i64, .int .i64], 24, [.int .i64 0, .int .i64 0, .int .i64 0], false⟩),
  (50, ⟨.arr 3 9, [.str, .str, .str], 48, [.str [], .str [], .str []], false⟩),
  (51, ⟨.arr 2 3, [.int .i64, .int .i64], 16, [.int .i64 0, .int .i64 0], false⟩),
  (52, ⟨.arr 3 51, [.int .i64, .int .i64, .int .i64, .int .i64, .int .i64, .int .i64], 48, [.int .i64 0, .int .i64 0, .int .i64 0, .int .i64 0, .int .i64 0, .int .i64 0], false⟩),
  (53, ⟨.sl 5, [.sl [.int .u8]], 24, [.nilsl], false⟩)]

theorem ty3_ok : ∀ t L, lkO ty3 t = some L → TyOk Try.prog t L := tysB_ok (by kernel_rfl)
theorem mixed3 : Try.prog.follows .mixedOrders = true := by kernel_rfl

/-- A contract, by the arguments' form. -/
def conOf {α : Type} (sh : List SV → Option α) (pre : α → Option Prop) (res : α → SV) : Con :=
  ⟨fun us => match sh us with
    | some a => pre a
    | none => some False, fun us => match sh us with
    | some a => res a
    | none => .any⟩

theorem knownOf {P : Program} {f : Nat} {α : Type} {sh : List SV → Option α} {pre : α → Option Prop} {res : α → SV} (emb : α → List SV) (hsh : ∀ us a, sh us = some a → us = emb a) (hb : fnB P f = true)
    (h : ∀ a, obH (pre a) → closed (res a) = true ∧ FnOK P f (emb a) (res a)) : Known P f (conOf sh pre res) := by
  refine ⟨fnB_ok hb, fun us _ hp => ?_⟩
  simp only [conOf] at hp ⊢
  cases hs : sh us with
  | none => rw [hs] at hp; exact hp.elim
  | some a =>
    rw [hs] at hp
    rw [hsh us a hs]
    have hq := hsh us a hs
    subst hq
    exact h a hp

/-! The arguments' forms. -/
def shI : List SV → Option Int
  | [.int .i64 y] => some y
  | _ => none
def emI (y : Int) : List SV := [.int .i64 y]
theorem shI_em : ∀ us a, shI us = some a → us = emI a := by
  intro us a h
  unfold shI at h
  split at h
  · cases h; rfl
  · cases h
def shII : List SV → Option (Int × Int)
  | [.int .i64 y, .int .i64 m] => some (y, m)
  | _ => none
def emII (a : Int × Int) : List SV := [.int .i64 a.1, .int .i64 a.2]
theorem shII_em : ∀ us a, shII us = some a → us = emII a := by
  intro us a h
  unfold shII at h
  split at h
  · cases h; rfl
  · cases h
def dSV (a : Int × Int × Int) : SV := .agg [.int .i64 a.1, .int .i64 a.2.1, .int .i64 a.2.2]
def shD : List SV → Option (Int × Int × Int)
  | [.agg [.int .i64 y, .int .i64 m, .int .i64 d]] => some (y, m, d)
  | _ => none
def emD (a : Int × Int × Int) : List SV := [dSV a]
theorem shD_em : ∀ us a, shD us = some a → us = emD a := by
  intro us a h
  unfold shD at h
  split at h
  · cases h; rfl
  · cases h

/-! What the functions come to. -/
theorem tm0 (y n : Int) : y.tmod n = 0 ↔ y % n = 0 := ⟨fun h => Int.emod_eq_zero_of_dvd (Int.dvd_of_tmod_eq_zero h), fun h => Int.tmod_eq_zero_of_dvd (Int.dvd_of_emod_eq_zero h)⟩
def leapS (y : Int) : Bool := decide (y % 4 = 0) && (!decide (y % 100 = 0) || decide (y % 400 = 0))
def lastS (y m : Int) : Int :=
  if y < 1900 ∨ 2199 < y then 0
  else if m = 1 ∨ m = 3 ∨ m = 5 ∨ m = 7 ∨ m = 8 ∨ m = 10 ∨ m = 12 then 31
  else if m = 4 ∨ m = 6 ∨ m = 9 ∨ m = 11 then 30
  else if m = 2 then (if leapS y = true then 29 else 28) else 0
def longS (y : Int) : Int := if leapS y = true then 366 else 365
def monthS (y m : Int) : Int :=
  if m < 1 ∨ 12 < m ∨ y < 1900 ∨ 2199 < y then 0
  else [31, longS y - 337, 31, 30, 31, 30, 31, 31, 30, 31, 30, 31].getD (m - 1).toNat 0
def rightS (a : Int × Int × Int) : Bool := decide (1 ≤ a.2.2) && decide (a.2.2 ≤ lastS a.1 a.2.1)

def leapC : Con := conOf shI (fun _ => none) (fun y => .bool (leapS y))
def lastC : Con := conOf shII (fun _ => none) (fun a => .int .i64 (lastS a.1 a.2))
def longC : Con := conOf shI (fun _ => none) (fun y => .int .i64 (longS y))
def monthC : Con := conOf shII (fun _ => none) (fun a => .int .i64 (monthS a.1 a.2))
def rightC : Con := conOf shD (fun _ => none) (fun a => .bool (rightS a))
def K0 : List (Nat × Con) := [(27, leapC), (15, lastC), (28, longC), (16, monthC), (14, rightC), (23, rightC)]
end Go.Rx
