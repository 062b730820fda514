/- Days: the last workday that isn't behind a day; workdays counted. -/
import Derived.Test.YtfjcjbmamdfhoaaDate
namespace Go.Rx
open Go.Proofs
set_option linter.unusedSimpArgs false
set_option linter.unusedVariables false

/-- The last workday's number that isn't behind one. -/
def backN (n : Int) : Int := if n % 7 < 5 then n else if n % 7 = 5 then n - 1 else n - 2
def aheadN (n : Int) : Int := n / 7 * 5 + min (n % 7) 5
noncomputable def backS (a : Int × Int × Int) : Int × Int × Int := if rightS a = true then ofS (backN (numS a)) else (0, 0, 0)
def wdV (a b : Int × Int × Int) : Int := if rightS a = true ∧ rightS b = true ∧ numS a ≤ numS b then aheadN (numS b + 1) - aheadN (numS a) else 0
def dfE (b : Bool) : Int := if b = true then 0 else 30

def sh_dback : List SV → Option (Int × Int × Int)
  | [.agg [.int .i64 y, .int .i64 m, .int .i64 d]] => some (y, m, d)
  | _ => none
def em_dback : Int × Int × Int → List SV := fun (y, m, d) => [.agg [.int .i64 y, .int .i64 m, .int .i64 d]]
theorem sh_dback_le : ∀ us a, sh_dback us = some a → leL us (em_dback a) := by
  intro us a h
  unfold sh_dback at h
  split at h
  · cases h; exact (.cons (.agg (.cons (.refl _) (.cons (.refl _) (.cons (.refl _) .nil)))) .nil)
  · cases h
noncomputable def dbackC : Con := conOf sh_dback (fun _ => none) (fun (y, m, d) => .tup [dSV (backS (y, m, d)), .int .i64 (dfE (rightS (y, m, d)))])
set_option maxRecDepth 100000 in
theorem vc_dback (y : Int) (m : Int) (d : Int) : (wpF ⟨21, tyT, [(32, dworkdayC), (34, daddC)], true⟩ ((unrAn [(3000, (4, [1, 2, 5], [1, 2]))])) [] Try.f41 (em_dback (y, m, d)) (.tup [dSV (backS (y, m, d)), .int .i64 (dfE (rightS (y, m, d)))])) = ((((workS (y, m, d) = true) → ((y = (backS (y, m, d)).fst) ∧ ((m = (backS (y, m, d)).snd.fst) ∧ ((d = (backS (y, m, d)).snd.snd) ∧ (((0 : Int) = dfE (rightS (y, m, d))) ∧ (True)))))) ∧ ((workS (y, m, d) = false) → ((((!decide ((if addOk ((y, m, d), (-1 : Int)) = true then (0 : Int) else (30 : Int)) = (0 : Int))) = true) → (((0 : Int) = (backS (y, m, d)).fst) ∧ (((0 : Int) = (backS (y, m, d)).snd.fst) ∧ (((0 : Int) = (backS (y, m, d)).snd.snd) ∧ (((if addOk ((y, m, d), (-1 : Int)) = true then (0 : Int) else (30 : Int)) = dfE (rightS (y, m, d))) ∧ (True)))))) ∧ (((!decide ((if addOk ((y, m, d), (-1 : Int)) = true then (0 : Int) else (30 : Int)) = (0 : Int))) = false) → (((workS ((if addOk ((y, m, d), (-1 : Int)) = true then ofS (numS (y, m, d) + (-1 : Int)) else ((0 : Int), (0 : Int), (0 : Int))).fst, (if addOk ((y, m, d), (-1 : Int)) = true then ofS (numS (y, m, d) + (-1 : Int)) else ((0 : Int), (0 : Int), (0 : Int))).snd.fst, (if addOk ((y, m, d), (-1 : Int)) = true then ofS (numS (y, m, d) + (-1 : Int)) else ((0 : Int), (0 : Int), (0 : Int))).snd.snd) = true) → (((if addOk ((y, m, d), (-1 : Int)) = true then ofS (numS (y, m, d) + (-1 : Int)) else ((0 : Int), (0 : Int), (0 : Int))).fst = (backS (y, m, d)).fst) ∧ (((if addOk ((y, m, d), (-1 : Int)) = true then ofS (numS (y, m, d) + (-1 : Int)) else ((0 : Int), (0 : Int), (0 : Int))).snd.fst = (backS (y, m, d)).snd.fst) ∧ (((if addOk ((y, m, d), (-1 : Int)) = true then ofS (numS (y, m, d) + (-1 : Int)) else ((0 : Int), (0 : Int), (0 : Int))).snd.snd = (backS (y, m, d)).snd.snd) ∧ (((0 : Int) = dfE (rightS (y, m, d))) ∧ (True)))))) ∧ ((workS ((if addOk ((y, m, d), (-1 : Int)) = true then ofS (numS (y, m, d) + (-1 : Int)) else ((0 : Int), (0 : Int), (0 : Int))).fst, (if addOk ((y, m, d), (-1 : Int)) = true then ofS (numS (y, m, d) + (-1 : Int)) else ((0 : Int), (0 : Int), (0 : Int))).snd.fst, (if addOk ((y, m, d), (-1 : Int)) = true then ofS (numS (y, m, d) + (-1 : Int)) else ((0 : Int), (0 : Int), (0 : Int))).snd.snd) = false) → ((((!decide ((if addOk (((if addOk ((y, m, d), (-1 : Int)) = true then ofS (numS (y, m, d) + (-1 : Int)) else ((0 : Int), (0 : Int), (0 : Int))).fst, (if addOk ((y, m, d), (-1 : Int)) = true then ofS (numS (y, m, d) + (-1 : Int)) else ((0 : Int), (0 : Int), (0 : Int))).snd.fst, (if addOk ((y, m, d), (-1 : Int)) = true then ofS (numS (y, m, d) + (-1 : Int)) else ((0 : Int), (0 : Int), (0 : Int))).snd.snd), (-1 : Int)) = true then (0 : Int) else (30 : Int)) = (0 : Int))) = true) → (((0 : Int) = (backS (y, m, d)).fst) ∧ (((0 : Int) = (backS (y, m, d)).snd.fst) ∧ (((0 : Int) = (backS (y, m, d)).snd.snd) ∧ (((if addOk (((if addOk ((y, m, d), (-1 : Int)) = true then ofS (numS (y, m, d) + (-1 : Int)) else ((0 : Int), (0 : Int), (0 : Int))).fst, (if addOk ((y, m, d), (-1 : Int)) = true then ofS (numS (y, m, d) + (-1 : Int)) else ((0 : Int), (0 : Int), (0 : Int))).snd.fst, (if addOk ((y, m, d), (-1 : Int)) = true then ofS (numS (y, m, d) + (-1 : Int)) else ((0 : Int), (0 : Int), (0 : Int))).snd.snd), (-1 : Int)) = true then (0 : Int) else (30 : Int)) = dfE (rightS (y, m, d))) ∧ (True)))))) ∧ (((!decide ((if addOk (((if addOk ((y, m, d), (-1 : Int)) = true then ofS (numS (y, m, d) + (-1 : Int)) else ((0 : Int), (0 : Int), (0 : Int))).fst, (if addOk ((y, m, d), (-1 : Int)) = true then ofS (numS (y, m, d) + (-1 : Int)) else ((0 : Int), (0 : Int), (0 : Int))).snd.fst, (if addOk ((y, m, d), (-1 : Int)) = true then ofS (numS (y, m, d) + (-1 : Int)) else ((0 : Int), (0 : Int), (0 : Int))).snd.snd), (-1 : Int)) = true then (0 : Int) else (30 : Int)) = (0 : Int))) = false) → (((workS ((if addOk (((if addOk ((y, m, d), (-1 : Int)) = true then ofS (numS (y, m, d) + (-1 : Int)) else ((0 : Int), (0 : Int), (0 : Int))).fst, (if addOk ((y, m, d), (-1 : Int)) = true then ofS (numS (y, m, d) + (-1 : Int)) else ((0 : Int), (0 : Int), (0 : Int))).snd.fst, (if addOk ((y, m, d), (-1 : Int)) = true then ofS (numS (y, m, d) + (-1 : Int)) else ((0 : Int), (0 : Int), (0 : Int))).snd.snd), (-1 : Int)) = true then ofS (numS ((if addOk ((y, m, d), (-1 : Int)) = true then ofS (numS (y, m, d) + (-1 : Int)) else ((0 : Int), (0 : Int), (0 : Int))).fst, (if addOk ((y, m, d), (-1 : Int)) = true then ofS (numS (y, m, d) + (-1 : Int)) else ((0 : Int), (0 : Int), (0 : Int))).snd.fst, (if addOk ((y, m, d), (-1 : Int)) = true then ofS (numS (y, m, d) + (-1 : Int)) else ((0 : Int), (0 : Int), (0 : Int))).snd.snd) + (-1 : Int)) else ((0 : Int), (0 : Int), (0 : Int))).fst, (if addOk (((if addOk ((y, m, d), (-1 : Int)) = true then ofS (numS (y, m, d) + (-1 : Int)) else ((0 : Int), (0 : Int), (0 : Int))).fst, (if addOk ((y, m, d), (-1 : Int)) = true then ofS (numS (y, m, d) + (-1 : Int)) else ((0 : Int), (0 : Int), (0 : Int))).snd.fst, (if addOk ((y, m, d), (-1 : Int)) = true then ofS (numS (y, m, d) + (-1 : Int)) else ((0 : Int), (0 : Int), (0 : Int))).snd.snd), (-1 : Int)) = true then ofS (numS ((if addOk ((y, m, d), (-1 : Int)) = true then ofS (numS (y, m, d) + (-1 : Int)) else ((0 : Int), (0 : Int), (0 : Int))).fst, (if addOk ((y, m, d), (-1 : Int)) = true then ofS (numS (y, m, d) + (-1 : Int)) else ((0 : Int), (0 : Int), (0 : Int))).snd.fst, (if addOk ((y, m, d), (-1 : Int)) = true then ofS (numS (y, m, d) + (-1 : Int)) else ((0 : Int), (0 : Int), (0 : Int))).snd.snd) + (-1 : Int)) else ((0 : Int), (0 : Int), (0 : Int))).snd.fst, (if addOk (((if addOk ((y, m, d), (-1 : Int)) = true then ofS (numS (y, m, d) + (-1 : Int)) else ((0 : Int), (0 : Int), (0 : Int))).fst, (if addOk ((y, m, d), (-1 : Int)) = true then ofS (numS (y, m, d) + (-1 : Int)) else ((0 : Int), (0 : Int), (0 : Int))).snd.fst, (if addOk ((y, m, d), (-1 : Int)) = true then ofS (numS (y, m, d) + (-1 : Int)) else ((0 : Int), (0 : Int), (0 : Int))).snd.snd), (-1 : Int)) = true then ofS (numS ((if addOk ((y, m, d), (-1 : Int)) = true then ofS (numS (y, m, d) + (-1 : Int)) else ((0 : Int), (0 : Int), (0 : Int))).fst, (if addOk ((y, m, d), (-1 : Int)) = true then ofS (numS (y, m, d) + (-1 : Int)) else ((0 : Int), (0 : Int), (0 : Int))).snd.fst, (if addOk ((y, m, d), (-1 : Int)) = true then ofS (numS (y, m, d) + (-1 : Int)) else ((0 : Int), (0 : Int), (0 : Int))).snd.snd) + (-1 : Int)) else ((0 : Int), (0 : Int), (0 : Int))).snd.snd) = true) → (((if addOk (((if addOk ((y, m, d), (-1 : Int)) = true then ofS (numS (y, m, d) + (-1 : Int)) else ((0 : Int), (0 : Int), (0 : Int))).fst, (if addOk ((y, m, d), (-1 : Int)) = true then ofS (numS (y, m, d) + (-1 : Int)) else ((0 : Int), (0 : Int), (0 : Int))).snd.fst, (if addOk ((y, m, d), (-1 : Int)) = true then ofS (numS (y, m, d) + (-1 : Int)) else ((0 : Int), (0 : Int), (0 : Int))).snd.snd), (-1 : Int)) = true then ofS (numS ((if addOk ((y, m, d), (-1 : Int)) = true then ofS (numS (y, m, d) + (-1 : Int)) else ((0 : Int), (0 : Int), (0 : Int))).fst, (if addOk ((y, m, d), (-1 : Int)) = true then ofS (numS (y, m, d) + (-1 : Int)) else ((0 : Int), (0 : Int), (0 : Int))).snd.fst, (if addOk ((y, m, d), (-1 : Int)) = true then ofS (numS (y, m, d) + (-1 : Int)) else ((0 : Int), (0 : Int), (0 : Int))).snd.snd) + (-1 : Int)) else ((0 : Int), (0 : Int), (0 : Int))).fst = (backS (y, m, d)).fst) ∧ (((if addOk (((if addOk ((y, m, d), (-1 : Int)) = true then ofS (numS (y, m, d) + (-1 : Int)) else ((0 : Int), (0 : Int), (0 : Int))).fst, (if addOk ((y, m, d), (-1 : Int)) = true then ofS (numS (y, m, d) + (-1 : Int)) else ((0 : Int), (0 : Int), (0 : Int))).snd.fst, (if addOk ((y, m, d), (-1 : Int)) = true then ofS (numS (y, m, d) + (-1 : Int)) else ((0 : Int), (0 : Int), (0 : Int))).snd.snd), (-1 : Int)) = true then ofS (numS ((if addOk ((y, m, d), (-1 : Int)) = true then ofS (numS (y, m, d) + (-1 : Int)) else ((0 : Int), (0 : Int), (0 : Int))).fst, (if addOk ((y, m, d), (-1 : Int)) = true then ofS (numS (y, m, d) + (-1 : Int)) else ((0 : Int), (0 : Int), (0 : Int))).snd.fst, (if addOk ((y, m, d), (-1 : Int)) = true then ofS (numS (y, m, d) + (-1 : Int)) else ((0 : Int), (0 : Int), (0 : Int))).snd.snd) + (-1 : Int)) else ((0 : Int), (0 : Int), (0 : Int))).snd.fst = (backS (y, m, d)).snd.fst) ∧ (((if addOk (((if addOk ((y, m, d), (-1 : Int)) = true then ofS (numS (y, m, d) + (-1 : Int)) else ((0 : Int), (0 : Int), (0 : Int))).fst, (if addOk ((y, m, d), (-1 : Int)) = true then ofS (numS (y, m, d) + (-1 : Int)) else ((0 : Int), (0 : Int), (0 : Int))).snd.fst, (if addOk ((y, m, d), (-1 : Int)) = true then ofS (numS (y, m, d) + (-1 : Int)) else ((0 : Int), (0 : Int), (0 : Int))).snd.snd), (-1 : Int)) = true then ofS (numS ((if addOk ((y, m, d), (-1 : Int)) = true then ofS (numS (y, m, d) + (-1 : Int)) else ((0 : Int), (0 : Int), (0 : Int))).fst, (if addOk ((y, m, d), (-1 : Int)) = true then ofS (numS (y, m, d) + (-1 : Int)) else ((0 : Int), (0 : Int), (0 : Int))).snd.fst, (if addOk ((y, m, d), (-1 : Int)) = true then ofS (numS (y, m, d) + (-1 : Int)) else ((0 : Int), (0 : Int), (0 : Int))).snd.snd) + (-1 : Int)) else ((0 : Int), (0 : Int), (0 : Int))).snd.snd = (backS (y, m, d)).snd.snd) ∧ (((0 : Int) = dfE (rightS (y, m, d))) ∧ (True)))))) ∧ ((workS ((if addOk (((if addOk ((y, m, d), (-1 : Int)) = true then ofS (numS (y, m, d) + (-1 : Int)) else ((0 : Int), (0 : Int), (0 : Int))).fst, (if addOk ((y, m, d), (-1 : Int)) = true then ofS (numS (y, m, d) + (-1 : Int)) else ((0 : Int), (0 : Int), (0 : Int))).snd.fst, (if addOk ((y, m, d), (-1 : Int)) = true then ofS (numS (y, m, d) + (-1 : Int)) else ((0 : Int), (0 : Int), (0 : Int))).snd.snd), (-1 : Int)) = true then ofS (numS ((if addOk ((y, m, d), (-1 : Int)) = true then ofS (numS (y, m, d) + (-1 : Int)) else ((0 : Int), (0 : Int), (0 : Int))).fst, (if addOk ((y, m, d), (-1 : Int)) = true then ofS (numS (y, m, d) + (-1 : Int)) else ((0 : Int), (0 : Int), (0 : Int))).snd.fst, (if addOk ((y, m, d), (-1 : Int)) = true then ofS (numS (y, m, d) + (-1 : Int)) else ((0 : Int), (0 : Int), (0 : Int))).snd.snd) + (-1 : Int)) else ((0 : Int), (0 : Int), (0 : Int))).fst, (if addOk (((if addOk ((y, m, d), (-1 : Int)) = true then ofS (numS (y, m, d) + (-1 : Int)) else ((0 : Int), (0 : Int), (0 : Int))).fst, (if addOk ((y, m, d), (-1 : Int)) = true then ofS (numS (y, m, d) + (-1 : Int)) else ((0 : Int), (0 : Int), (0 : Int))).snd.fst, (if addOk ((y, m, d), (-1 : Int)) = true then ofS (numS (y, m, d) + (-1 : Int)) else ((0 : Int), (0 : Int), (0 : Int))).snd.snd), (-1 : Int)) = true then ofS (numS ((if addOk ((y, m, d), (-1 : Int)) = true then ofS (numS (y, m, d) + (-1 : Int)) else ((0 : Int), (0 : Int), (0 : Int))).fst, (if addOk ((y, m, d), (-1 : Int)) = true then ofS (numS (y, m, d) + (-1 : Int)) else ((0 : Int), (0 : Int), (0 : Int))).snd.fst, (if addOk ((y, m, d), (-1 : Int)) = true then ofS (numS (y, m, d) + (-1 : Int)) else ((0 : Int), (0 : Int), (0 : Int))).snd.snd) + (-1 : Int)) else ((0 : Int), (0 : Int), (0 : Int))).snd.fst, (if addOk (((if addOk ((y, m, d), (-1 : Int)) = true then ofS (numS (y, m, d) + (-1 : Int)) else ((0 : Int), (0 : Int), (0 : Int))).fst, (if addOk ((y, m, d), (-1 : Int)) = true then ofS (numS (y, m, d) + (-1 : Int)) else ((0 : Int), (0 : Int), (0 : Int))).snd.fst, (if addOk ((y, m, d), (-1 : Int)) = true then ofS (numS (y, m, d) + (-1 : Int)) else ((0 : Int), (0 : Int), (0 : Int))).snd.snd), (-1 : Int)) = true then ofS (numS ((if addOk ((y, m, d), (-1 : Int)) = true then ofS (numS (y, m, d) + (-1 : Int)) else ((0 : Int), (0 : Int), (0 : Int))).fst, (if addOk ((y, m, d), (-1 : Int)) = true then ofS (numS (y, m, d) + (-1 : Int)) else ((0 : Int), (0 : Int), (0 : Int))).snd.fst, (if addOk ((y, m, d), (-1 : Int)) = true then ofS (numS (y, m, d) + (-1 : Int)) else ((0 : Int), (0 : Int), (0 : Int))).snd.snd) + (-1 : Int)) else ((0 : Int), (0 : Int), (0 : Int))).snd.snd) = false) → ((((!decide ((if addOk (((if addOk (((if addOk ((y, m, d), (-1 : Int)) = true then ofS (numS (y, m, d) + (-1 : Int)) else ((0 : Int), (0 : Int), (0 : Int))).fst, (if addOk ((y, m, d), (-1 : Int)) = true then ofS (numS (y, m, d) + (-1 : Int)) else ((0 : Int), (0 : Int), (0 : Int))).snd.fst, (if addOk ((y, m, d), (-1 : Int)) = true then ofS (numS (y, m, d) + (-1 : Int)) else ((0 : Int), (0 : Int), (0 : Int))).snd.snd), (-1 : Int)) = true then ofS (numS ((if addOk ((y, m, d), (-1 : Int)) = true then ofS (numS (y, m, d) + (-1 : Int)) else ((0 : Int), (0 : Int), (0 : Int))).fst, (if addOk ((y, m, d), (-1 : Int)) = true then ofS (numS (y, m, d) + (-1 : Int)) else ((0 : Int), (0 : Int), (0 : Int))).snd.fst, (if addOk ((y, m, d), (-1 : Int)) = true then ofS (numS (y, m, d) + (-1 : Int)) else ((0 : Int), (0 : Int), (0 : Int))).snd.snd) + (-1 : Int)) else ((0 : Int), (0 : Int), (0 : Int))).fst, (if addOk (((if addOk ((y, m, d), (-1 : Int)) = true then ofS (numS (y, m, d) + (-1 : Int)) else ((0 : Int), (0 : Int), (0 : Int))).fst, (if addOk ((y, m, d), (-1 : Int)) = true then ofS (numS (y, m, d) + (-1 : Int)) else ((0 : Int), (0 : Int), (0 : Int))).snd.fst, (if addOk ((y, m, d), (-1 : Int)) = true then ofS (numS (y, m, d) + (-1 : Int)) else ((0 : Int), (0 : Int), (0 : Int))).snd.snd), (-1 : Int)) = true then ofS (numS ((if addOk ((y, m, d), (-1 : Int)) = true then ofS (numS (y, m, d) + (-1 : Int)) else ((0 : Int), (0 : Int), (0 : Int))).fst, (if addOk ((y, m, d), (-1 : Int)) = true then ofS (numS (y, m, d) + (-1 : Int)) else ((0 : Int), (0 : Int), (0 : Int))).snd.fst, (if addOk ((y, m, d), (-1 : Int)) = true then ofS (numS (y, m, d) + (-1 : Int)) else ((0 : Int), (0 : Int), (0 : Int))).snd.snd) + (-1 : Int)) else ((0 : Int), (0 : Int), (0 : Int))).snd.fst, (if addOk (((if addOk ((y, m, d), (-1 : Int)) = true then ofS (numS (y, m, d) + (-1 : Int)) else ((0 : Int), (0 : Int), (0 : Int))).fst, (if addOk ((y, m, d), (-1 : Int)) = true then ofS (numS (y, m, d) + (-1 : Int)) else ((0 : Int), (0 : Int), (0 : Int))).snd.fst, (if addOk ((y, m, d), (-1 : Int)) = true then ofS (numS (y, m, d) + (-1 : Int)) else ((0 : Int), (0 : Int), (0 : Int))).snd.snd), (-1 : Int)) = true then ofS (numS ((if addOk ((y, m, d), (-1 : Int)) = true then ofS (numS (y, m, d) + (-1 : Int)) else ((0 : Int), (0 : Int), (0 : Int))).fst, (if addOk ((y, m, d), (-1 : Int)) = true then ofS (numS (y, m, d) + (-1 : Int)) else ((0 : Int), (0 : Int), (0 : Int))).snd.fst, (if addOk ((y, m, d), (-1 : Int)) = true then ofS (numS (y, m, d) + (-1 : Int)) else ((0 : Int), (0 : Int), (0 : Int))).snd.snd) + (-1 : Int)) else ((0 : Int), (0 : Int), (0 : Int))).snd.snd), (-1 : Int)) = true then (0 : Int) else (30 : Int)) = (0 : Int))) = true) → (((0 : Int) = (backS (y, m, d)).fst) ∧ (((0 : Int) = (backS (y, m, d)).snd.fst) ∧ (((0 : Int) = (backS (y, m, d)).snd.snd) ∧ (((if addOk (((if addOk (((if addOk ((y, m, d), (-1 : Int)) = true then ofS (numS (y, m, d) + (-1 : Int)) else ((0 : Int), (0 : Int), (0 : Int))).fst, (if addOk ((y, m, d), (-1 : Int)) = true then ofS (numS (y, m, d) + (-1 : Int)) else ((0 : Int), (0 : Int), (0 : Int))).snd.fst, (if addOk ((y, m, d), (-1 : Int)) = true then ofS (numS (y, m, d) + (-1 : Int)) else ((0 : Int), (0 : Int), (0 : Int))).snd.snd), (-1 : Int)) = true then ofS (numS ((if addOk ((y, m, d), (-1 : Int)) = true then ofS (numS (y, m, d) + (-1 : Int)) else ((0 : Int), (0 : Int), (0 : Int))).fst, (if addOk ((y, m, d), (-1 : Int)) = true then ofS (numS (y, m, d) + (-1 : Int)) else ((0 : Int), (0 : Int), (0 : Int))).snd.fst, (if addOk ((y, m, d), (-1 : Int)) = true then ofS (numS (y, m, d) + (-1 : Int)) else ((0 : Int), (0 : Int), (0 : Int))).snd.snd) + (-1 : Int)) else ((0 : Int), (0 : Int), (0 : Int))).fst, (if addOk (((if addOk ((y, m, d), (-1 : Int)) = true then ofS (numS (y, m, d) + (-1 : Int)) else ((0 : Int), (0 : Int), (0 : Int))).fst, (if addOk ((y, m, d), (-1 : Int)) = true then ofS (numS (y, m, d) + (-1 : Int)) else ((0 : Int), (0 : Int), (0 : Int))).snd.fst, (if addOk ((y, m, d), (-1 : Int)) = true then ofS (numS (y, m, d) + (-1 : Int)) else ((0 : Int), (0 : Int), (0 : Int))).snd.snd), (-1 : Int)) = true then ofS (numS ((if addOk ((y, m, d), (-1 : Int)) = true then ofS (numS (y, m, d) + (-1 : Int)) else ((0 : Int), (0 : Int), (0 : Int))).fst, (if addOk ((y, m, d), (-1 : Int)) = true then ofS (numS (y, m, d) + (-1 : Int)) else ((0 : Int), (0 : Int), (0 : Int))).snd.fst, (if addOk ((y, m, d), (-1 : Int)) = true then ofS (numS (y, m, d) + (-1 : Int)) else ((0 : Int), (0 : Int), (0 : Int))).snd.snd) + (-1 : Int)) else ((0 : Int), (0 : Int), (0 : Int))).snd.fst, (if addOk (((if addOk ((y, m, d), (-1 : Int)) = true then ofS (numS (y, m, d) + (-1 : Int)) else ((0 : Int), (0 : Int), (0 : Int))).fst, (if addOk ((y, m, d), (-1 : Int)) = true then ofS (numS (y, m, d) + (-1 : Int)) else ((0 : Int), (0 : Int), (0 : Int))).snd.fst, (if addOk ((y, m, d), (-1 : Int)) = true then ofS (numS (y, m, d) + (-1 : Int)) else ((0 : Int), (0 : Int), (0 : Int))).snd.snd), (-1 : Int)) = true then ofS (numS ((if addOk ((y, m, d), (-1 : Int)) = true then ofS (numS (y, m, d) + (-1 : Int)) else ((0 : Int), (0 : Int), (0 : Int))).fst, (if addOk ((y, m, d), (-1 : Int)) = true then ofS (numS (y, m, d) + (-1 : Int)) else ((0 : Int), (0 : Int), (0 : Int))).snd.fst, (if addOk ((y, m, d), (-1 : Int)) = true then ofS (numS (y, m, d) + (-1 : Int)) else ((0 : Int), (0 : Int), (0 : Int))).snd.snd) + (-1 : Int)) else ((0 : Int), (0 : Int), (0 : Int))).snd.snd), (-1 : Int)) = true then (0 : Int) else (30 : Int)) = dfE (rightS (y, m, d))) ∧ (True)))))) ∧ (((!decide ((if addOk (((if addOk (((if addOk ((y, m, d), (-1 : Int)) = true then ofS (numS (y, m, d) + (-1 : Int)) else ((0 : Int), (0 : Int), (0 : Int))).fst, (if addOk ((y, m, d), (-1 : Int)) = true then ofS (numS (y, m, d) + (-1 : Int)) else ((0 : Int), (0 : Int), (0 : Int))).snd.fst, (if addOk ((y, m, d), (-1 : Int)) = true then ofS (numS (y, m, d) + (-1 : Int)) else ((0 : Int), (0 : Int), (0 : Int))).snd.snd), (-1 : Int)) = true then ofS (numS ((if addOk ((y, m, d), (-1 : Int)) = true then ofS (numS (y, m, d) + (-1 : Int)) else ((0 : Int), (0 : Int), (0 : Int))).fst, (if addOk ((y, m, d), (-1 : Int)) = true then ofS (numS (y, m, d) + (-1 : Int)) else ((0 : Int), (0 : Int), (0 : Int))).snd.fst, (if addOk ((y, m, d), (-1 : Int)) = true then ofS (numS (y, m, d) + (-1 : Int)) else ((0 : Int), (0 : Int), (0 : Int))).snd.snd) + (-1 : Int)) else ((0 : Int), (0 : Int), (0 : Int))).fst, (if addOk (((if addOk ((y, m, d), (-1 : Int)) = true then ofS (numS (y, m, d) + (-1 : Int)) else ((0 : Int), (0 : Int), (0 : Int))).fst, (if addOk ((y, m, d), (-1 : Int)) = true then ofS (numS (y, m, d) + (-1 : Int)) else ((0 : Int), (0 : Int), (0 : Int))).snd.fst, (if addOk ((y, m, d), (-1 : Int)) = true then ofS (numS (y, m, d) + (-1 : Int)) else ((0 : Int), (0 : Int), (0 : Int))).snd.snd), (-1 : Int)) = true then ofS (numS ((if addOk ((y, m, d), (-1 : Int)) = true then ofS (numS (y, m, d) + (-1 : Int)) else ((0 : Int), (0 : Int), (0 : Int))).fst, (if addOk ((y, m, d), (-1 : Int)) = true then ofS (numS (y, m, d) + (-1 : Int)) else ((0 : Int), (0 : Int), (0 : Int))).snd.fst, (if addOk ((y, m, d), (-1 : Int)) = true then ofS (numS (y, m, d) + (-1 : Int)) else ((0 : Int), (0 : Int), (0 : Int))).snd.snd) + (-1 : Int)) else ((0 : Int), (0 : Int), (0 : Int))).snd.fst, (if addOk (((if addOk ((y, m, d), (-1 : Int)) = true then ofS (numS (y, m, d) + (-1 : Int)) else ((0 : Int), (0 : Int), (0 : Int))).fst, (if addOk ((y, m, d), (-1 : Int)) = true then ofS (numS (y, m, d) + (-1 : Int)) else ((0 : Int), (0 : Int), (0 : Int))).snd.fst, (if addOk ((y, m, d), (-1 : Int)) = true then ofS (numS (y, m, d) + (-1 : Int)) else ((0 : Int), (0 : Int), (0 : Int))).snd.snd), (-1 : Int)) = true then ofS (numS ((if addOk ((y, m, d), (-1 : Int)) = true then ofS (numS (y, m, d) + (-1 : Int)) else ((0 : Int), (0 : Int), (0 : Int))).fst, (if addOk ((y, m, d), (-1 : Int)) = true then ofS (numS (y, m, d) + (-1 : Int)) else ((0 : Int), (0 : Int), (0 : Int))).snd.fst, (if addOk ((y, m, d), (-1 : Int)) = true then ofS (numS (y, m, d) + (-1 : Int)) else ((0 : Int), (0 : Int), (0 : Int))).snd.snd) + (-1 : Int)) else ((0 : Int), (0 : Int), (0 : Int))).snd.snd), (-1 : Int)) = true then (0 : Int) else (30 : Int)) = (0 : Int))) = false) → (((0 : Int) = (backS (y, m, d)).fst) ∧ (((0 : Int) = (backS (y, m, d)).snd.fst) ∧ (((0 : Int) = (backS (y, m, d)).snd.snd) ∧ (((30 : Int) = dfE (rightS (y, m, d))) ∧ (True)))))))))))))))))) := by kernel_rfl
theorem num_pos {a : Int × Int × Int} (h : rightS a = true) : 0 ≤ numS a ∧ numS a < 109573 := by
  obtain ⟨y, m, d⟩ := a
  have h1 := num_in h
  have r1 := right_in h
  have y1 := yearsS_in (y := y) (by omega)
  have m1 := monthsS_in (y := y) (m := m) (by omega)
  have e : yearsS 2200 = 109573 := by decide
  have y2 : yearsS (y + 1) ≤ yearsS 2200 := years_less ⟨by omega, by omega⟩
  omega

theorem year_of {n : Int} (h0 : 0 ≤ n) : ∀ k : Nat, k ≤ 300 → n < yearsS (1900 + k) → ∃ y, inYear n y
  | 0, _, h => by
    have : yearsS (1900 + (0 : Nat)) = 0 := by decide
    omega
  | k + 1, hk, h => by
    by_cases hc : n < yearsS (1900 + k)
    · exact year_of h0 k (by omega) hc
    · refine ⟨1900 + k, by omega, by omega, by omega, ?_⟩
      have e : (1900 : Int) + k + 1 = 1900 + ((k + 1 : Nat) : Int) := by omega
      rw [e]; exact h

theorem month_of {n y : Int} (hy : inYear n y) : ∀ j : Nat, j ≤ 11 → (∃ m, inMonth n y m ∧ ¬ lastS y m ≤ n - yearsS y - monthsS y m) ∨ inMonth n y (j + 1)
  | 0, _ => .inr ⟨by omega, by omega, by
    have e : ((0 : Nat) : Int) + 1 = 1 := rfl
    rw [e, monthsS_one]
    have := hy.2.2.1
    omega⟩
  | j + 1, hj => by
    rcases month_of hy j (by omega) with h | h
    · exact .inl h
    · by_cases hc : lastS y (j + 1) ≤ n - yearsS y - monthsS y (j + 1)
      · have := ((of_step ⟨hy, h⟩).1 hc).2.2
        refine .inr ?_
        have e : (((j + 1 : Nat) : Int) + 1) = (j : Int) + 1 + 1 := by omega
        rw [e]; exact this
      · exact .inl ⟨_, h, hc⟩

theorem ofS_back {n : Int} (h : thereS n = true) : rightS (ofS n) = true ∧ numS (ofS n) = n := by
  simp only [thereS, Bool.and_eq_true, decide_eq_true_eq] at h
  have e : yearsS (1900 + (300 : Nat)) = 109573 := by decide
  obtain ⟨y, hy⟩ := year_of h.1 300 (by omega) (by omega)
  have key : ∃ m, inMonth n y m ∧ ¬ lastS y m ≤ n - yearsS y - monthsS y m := by
    rcases month_of hy 11 (by omega) with h1 | h1
    · exact h1
    · refine ⟨_, h1, fun hc => ?_⟩
      have := ((of_step ⟨hy, h1⟩).1 hc).1
      omega
  obtain ⟨m, hm, hc⟩ := key
  obtain ⟨s1, s2, s3, s4, s5, s6⟩ := of_step ⟨hy, hm⟩
  rw [(s2 hc).1]
  refine ⟨right_of (by omega), ?_⟩
  simp only [numS]
  omega

theorem lex_anti (a b : Int × Int × Int) : lexC a b = 0 - lexC b a ∧ (lexC a b = 0 ↔ a = b) ∧ -1 ≤ lexC b a ∧ lexC b a ≤ 1 := by
  obtain ⟨y, m, d⟩ := a
  obtain ⟨y', m', d'⟩ := b
  simp only [lexC, Prod.mk.injEq]
  refine ⟨?_, ?_, ?_, ?_⟩
  all_goals repeat' split
  all_goals omega

/-- The order of two days is that of their numbers. -/
theorem lex_less {a b : Int × Int × Int} (ha : rightS a = true) (hb : rightS b = true) (h : lexC a b < 0) : numS a < numS b := by
  obtain ⟨y, m, d⟩ := a
  obtain ⟨y', m', d'⟩ := b
  obtain ⟨h1, h2, h3, h4, h5, h6, h7⟩ := right_in ha
  obtain ⟨g1, g2, g3, g4, g5, g6, g7⟩ := right_in hb
  obtain ⟨a1, a2, a3⟩ := num_in ha
  obtain ⟨b1, b2, b3⟩ := num_in hb
  have n1 := monthsS_in (y := y') (m := m') ⟨g3, g4⟩
  have hcase : y < y' ∨ (y = y' ∧ m < m') ∨ (y = y' ∧ m = m' ∧ d < d') := by
    simp only [lexC] at h
    repeat' split at h
    all_goals omega
  rcases hcase with h | ⟨rfl, h⟩ | ⟨rfl, rfl, h⟩
  · have := years_less (y := y) (z := y') ⟨h1, h⟩; omega
  · obtain ⟨k, rfl, k1, k2⟩ := nat_of ⟨h3, h4⟩
    obtain ⟨j, rfl, j1, j2⟩ := nat_of ⟨g3, g4⟩
    rw [monthsS_B, lastS_B ⟨h1, h2⟩ (by omega)] at *
    have := months_less (leapS y) k k2 j j2 k1 (by omega)
    omega
  · simp only [numS]; omega

theorem lex_num {a b : Int × Int × Int} (ha : rightS a = true) (hb : rightS b = true) : (lexC a b < 0 ↔ numS a < numS b) := by
  refine ⟨lex_less ha hb, fun h => ?_⟩
  obtain ⟨l1, l2, l3, l4⟩ := lex_anti a b
  apply Classical.byContradiction
  intro hc
  by_cases he : lexC a b = 0
  · have := l2.1 he
    subst this
    omega
  · have := lex_less hb ha (by omega)
    omega

theorem there_iff {n : Int} : thereS n = true ↔ 0 ≤ n ∧ n < 109573 := by simp [thereS]
theorem work_iff {y m d : Int} (h : rightS (y, m, d) = true) : workS (y, m, d) = true ↔ numS (y, m, d) % 7 < 5 := by simp [workS, h]

theorem dback_known : Known Try.prog 41 dbackC := by
  refine known1 (nt := 21) (An := fun (y, m, d) => (unrAn [(3000, (4, [1, 2, 5], [1, 2]))])) (labs := []) (lit := true) (em := em_dback) sh_dback_le (by kernel_rfl) mixedT tyT_ok (.cons dworkday_known (.cons dadd_known .nil)) Try.func41 (by kernel_rfl) (fun a => by obtain ⟨y, m, d⟩ := a; kernel_rfl) (fun a => by obtain ⟨y, m, d⟩ := a; rfl) (fun a ha => ?_)
  obtain ⟨y, m, d⟩ := a
  refine ⟨_, vc_dback y m d, ?_⟩
  cases hr : rightS (y, m, d) with
  | false =>
    have h1 : workS (y, m, d) = false := by simp [workS, hr]
    have h2 : addOk ((y, m, d), -1) = false := by simp [addOk, hr]
    simp [h1, h2, backS, hr, dfE]
  | true =>
    have hp := num_pos hr
    have hb : backS (y, m, d) = ofS (backN (numS (y, m, d))) := by simp [backS, hr]
    have e0 := ofS_num hr
    rw [hb]
    generalize hN : numS (y, m, d) = N at *
    have hw := work_iff hr
    rw [hN] at hw
    by_cases w0 : N % 7 < 5
    · have h1 : workS (y, m, d) = true := hw.2 w0
      have h2 : backN N = N := by unfold backN; rw [if_pos w0]
      rw [h2, e0]
      simp [h1, dfE]
    · have h1 : workS (y, m, d) = false := by
        cases h : workS (y, m, d) with
        | false => rfl
        | true => exact absurd (hw.1 h) w0
      have t1 : thereS (N + -1) = true := there_iff.2 (by omega)
      have a1 : addOk ((y, m, d), -1) = true := by simp [addOk, hr, hN, t1]
      obtain ⟨r1, n1⟩ := ofS_back t1
      simp only [h1, a1, if_true]
      generalize hE : ofS (N + -1) = e at *
      obtain ⟨y1, m1, d1⟩ := e
      dsimp only at *
      have hw1 := work_iff r1
      rw [n1] at hw1
      by_cases w1 : (N + -1) % 7 < 5
      · have h3 : workS (y1, m1, d1) = true := hw1.2 w1
        have h2 : backN N = N + -1 := by unfold backN; rw [if_neg w0, if_pos (by omega)]; omega
        rw [h2, hE]
        simp [h3, dfE]
      · have h3 : workS (y1, m1, d1) = false := by
          cases h : workS (y1, m1, d1) with
          | false => rfl
          | true => exact absurd (hw1.1 h) w1
        have t2 : thereS (N + -1 + -1) = true := there_iff.2 (by omega)
        have a2 : addOk ((y1, m1, d1), -1) = true := by simp [addOk, r1, n1, t2]
        obtain ⟨r2, n2⟩ := ofS_back t2
        simp only [h3, a2, n1, if_true]
        generalize hE2 : ofS (N + -1 + -1) = e2 at *
        obtain ⟨y2, m2, d2⟩ := e2
        dsimp only at *
        have h4 : workS (y2, m2, d2) = true := (work_iff r2).2 (by rw [n2]; omega)
        have h2 : backN N = N + -1 + -1 := by unfold backN; rw [if_neg w0, if_neg (by omega)]; omega
        rw [h2, hE2]
        simp [h4, dfE]



end Go.Rx
