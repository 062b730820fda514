/- Tax years in periods: what they are, and what is told of them. -/
import Derived.Test.YtfjcjbmamdfhoaaDate2
namespace Go.Rx
open Go.Proofs
set_option linter.unusedSimpArgs false
set_option linter.unusedVariables false

def nomS (f : Int) : Int := if f = 1 then 52 else if f = 2 then 26 else if f = 3 then 13 else if f = 4 then 12 else 0
def lngS (f : Int) : Int := if f = 1 then 7 else if f = 2 then 14 else if f = 3 then 28 else 0
/-- May a tax year begin so? -/
def yrOk (f y m d : Int) : Bool := decide (1 ≤ f) && decide (f ≤ 4) && monthsOk ((y, m, d), 12) && !(decide (m = 2) && decide (d = 29))
def yrE (f y m d : Int) : Int := if 1 ≤ f ∧ f ≤ 4 then (if yrOk f y m d = true then 0 else 30) else 40
/-- The number of the day on which the next tax year begins. -/
def nxtN (y m d : Int) : Int := numS (monthsOn ((y, m, d), 12))
noncomputable def lstS (y m d : Int) : Int × Int × Int := ofS (nxtN y m d - 1)
def daysS (y m d : Int) : Int := nxtN y m d - numS (y, m, d)
def yrK : List CK := [.int .i64, .int .i64, .int .i64, .int .i64, .int .i64, .int .i64, .int .i64, .int .i64, .int .i64]
noncomputable def yrV (f y m d : Int) : SV := .agg [.int .i64 f, .int .i64 y, .int .i64 m, .int .i64 d, .int .i64 (lstS y m d).1, .int .i64 (lstS y m d).2.1, .int .i64 (lstS y m d).2.2, .int .i64 (numS (y, m, d)), .int .i64 (daysS y m d)]
def cntS (f dy : Int) : Int := if lngS f = 0 then nomS f else (dy + lngS f - 1) / lngS f

def sh_pnom : List SV → Option (Int)
  | [.int .i64 f] => some f
  | _ => none
def em_pnom : Int → List SV := fun f => [.int .i64 f]
theorem sh_pnom_le : ∀ us a, sh_pnom us = some a → leL us (em_pnom a) := by
  intro us a h
  unfold sh_pnom at h
  split at h
  · cases h; exact (.cons (.refl _) .nil)
  · cases h
def pnomC : Con := conOf sh_pnom (fun _ => none) (fun f => .int .i64 (nomS f))
set_option maxRecDepth 100000 in
theorem vc_pnom (f : Int) : (wpF ⟨12, tyT, [], false⟩ (noAnn) [] Try.f20 (em_pnom f) (.int .i64 (nomS f))) = ((((decide (f = (1 : Int)) = true) → (((52 : Int) = nomS f) ∧ (True))) ∧ ((decide (f = (1 : Int)) = false) → (((decide (f = (2 : Int)) = true) → (((26 : Int) = nomS f) ∧ (True))) ∧ ((decide (f = (2 : Int)) = false) → (((decide (f = (3 : Int)) = true) → (((13 : Int) = nomS f) ∧ (True))) ∧ ((decide (f = (3 : Int)) = false) → (((decide (f = (4 : Int)) = true) → (((12 : Int) = nomS f) ∧ (True))) ∧ ((decide (f = (4 : Int)) = false) → (((0 : Int) = nomS f) ∧ (True))))))))))) := by kernel_rfl
def sh_plen : List SV → Option (Int)
  | [.int .i64 f] => some f
  | _ => none
def em_plen : Int → List SV := fun f => [.int .i64 f]
theorem sh_plen_le : ∀ us a, sh_plen us = some a → leL us (em_plen a) := by
  intro us a h
  unfold sh_plen at h
  split at h
  · cases h; exact (.cons (.refl _) .nil)
  · cases h
def plenC : Con := conOf sh_plen (fun _ => none) (fun f => .int .i64 (lngS f))
set_option maxRecDepth 100000 in
theorem vc_plen (f : Int) : (wpF ⟨10, tyT, [], false⟩ (noAnn) [] Try.f38 (em_plen f) (.int .i64 (lngS f))) = ((((decide (f = (1 : Int)) = true) → (((7 : Int) = lngS f) ∧ (True))) ∧ ((decide (f = (1 : Int)) = false) → (((decide (f = (2 : Int)) = true) → (((14 : Int) = lngS f) ∧ (True))) ∧ ((decide (f = (2 : Int)) = false) → (((decide (f = (3 : Int)) = true) → (((28 : Int) = lngS f) ∧ (True))) ∧ ((decide (f = (3 : Int)) = false) → (((0 : Int) = lngS f) ∧ (True))))))))) := by kernel_rfl
def sh_pnew : List SV → Option (Int × Int × Int × Int)
  | [.int .i64 f, .agg [.int .i64 y, .int .i64 m, .int .i64 d]] => some (f, y, m, d)
  | _ => none
def em_pnew : Int × Int × Int × Int → List SV := fun (f, y, m, d) => [.int .i64 f, .agg [.int .i64 y, .int .i64 m, .int .i64 d]]
theorem sh_pnew_le : ∀ us a, sh_pnew us = some a → leL us (em_pnew a) := by
  intro us a h
  unfold sh_pnew at h
  split at h
  · cases h; exact (.cons (.refl _) (.cons (.agg (.cons (.refl _) (.cons (.refl _) (.cons (.refl _) .nil)))) .nil))
  · cases h
noncomputable def pnewC : Con := conOf sh_pnew (fun _ => none) (fun (f, y, m, d) => .tup [.oep (yrOk f y m d) yrK [yrV f y m d] 0 0, .int .i64 (yrE f y m d)])
set_option maxRecDepth 100000 in
theorem vc_pnew (f : Int) (y : Int) (m : Int) (d : Int) : (wpF ⟨64, tyT, [(20, pnomC), (35, dmonthsC), (34, daddC), (33, dnumberC), (16, dbetweenC)], false⟩ (noAnn) [] Try.f11 (em_pnew (f, y, m, d)) (.tup [.oep (yrOk f y m d) yrK [yrV f y m d] 0 0, .int .i64 (yrE f y m d)])) = ((((decide (nomS f = (0 : Int)) = true) → ((yrOk f y m d = false) ∧ (((40 : Int) = yrE f y m d) ∧ (True)))) ∧ ((decide (nomS f = (0 : Int)) = false) → ((((!decide ((if monthsOk ((y, m, d), (12 : Int)) = true then (0 : Int) else (30 : Int)) = (0 : Int))) = true) → ((yrOk f y m d = false) ∧ (((30 : Int) = yrE f y m d) ∧ (True)))) ∧ (((!decide ((if monthsOk ((y, m, d), (12 : Int)) = true then (0 : Int) else (30 : Int)) = (0 : Int))) = false) → (((decide (m = (2 : Int)) = true) → (((decide (d = (29 : Int)) = true) → ((yrOk f y m d = false) ∧ (((30 : Int) = yrE f y m d) ∧ (True)))) ∧ ((decide (d = (29 : Int)) = false) → ((((!decide ((if addOk (((if monthsOk ((y, m, d), (12 : Int)) = true then monthsOn ((y, m, d), (12 : Int)) else ((0 : Int), (0 : Int), (0 : Int))).fst, (if monthsOk ((y, m, d), (12 : Int)) = true then monthsOn ((y, m, d), (12 : Int)) else ((0 : Int), (0 : Int), (0 : Int))).snd.fst, (if monthsOk ((y, m, d), (12 : Int)) = true then monthsOn ((y, m, d), (12 : Int)) else ((0 : Int), (0 : Int), (0 : Int))).snd.snd), (-1 : Int)) = true then (0 : Int) else (30 : Int)) = (0 : Int))) = true) → ((yrOk f y m d = false) ∧ (((if addOk (((if monthsOk ((y, m, d), (12 : Int)) = true then monthsOn ((y, m, d), (12 : Int)) else ((0 : Int), (0 : Int), (0 : Int))).fst, (if monthsOk ((y, m, d), (12 : Int)) = true then monthsOn ((y, m, d), (12 : Int)) else ((0 : Int), (0 : Int), (0 : Int))).snd.fst, (if monthsOk ((y, m, d), (12 : Int)) = true then monthsOn ((y, m, d), (12 : Int)) else ((0 : Int), (0 : Int), (0 : Int))).snd.snd), (-1 : Int)) = true then (0 : Int) else (30 : Int)) = yrE f y m d) ∧ (True)))) ∧ (((!decide ((if addOk (((if monthsOk ((y, m, d), (12 : Int)) = true then monthsOn ((y, m, d), (12 : Int)) else ((0 : Int), (0 : Int), (0 : Int))).fst, (if monthsOk ((y, m, d), (12 : Int)) = true then monthsOn ((y, m, d), (12 : Int)) else ((0 : Int), (0 : Int), (0 : Int))).snd.fst, (if monthsOk ((y, m, d), (12 : Int)) = true then monthsOn ((y, m, d), (12 : Int)) else ((0 : Int), (0 : Int), (0 : Int))).snd.snd), (-1 : Int)) = true then (0 : Int) else (30 : Int)) = (0 : Int))) = false) → ((yrOk f y m d = true) ∧ (([SV.agg [SV.int IntKind.i64 f, SV.int IntKind.i64 y, SV.int IntKind.i64 m, SV.int IntKind.i64 d, SV.int IntKind.i64 (if addOk (((if monthsOk ((y, m, d), (12 : Int)) = true then monthsOn ((y, m, d), (12 : Int)) else ((0 : Int), (0 : Int), (0 : Int))).fst, (if monthsOk ((y, m, d), (12 : Int)) = true then monthsOn ((y, m, d), (12 : Int)) else ((0 : Int), (0 : Int), (0 : Int))).snd.fst, (if monthsOk ((y, m, d), (12 : Int)) = true then monthsOn ((y, m, d), (12 : Int)) else ((0 : Int), (0 : Int), (0 : Int))).snd.snd), (-1 : Int)) = true then ofS (numS ((if monthsOk ((y, m, d), (12 : Int)) = true then monthsOn ((y, m, d), (12 : Int)) else ((0 : Int), (0 : Int), (0 : Int))).fst, (if monthsOk ((y, m, d), (12 : Int)) = true then monthsOn ((y, m, d), (12 : Int)) else ((0 : Int), (0 : Int), (0 : Int))).snd.fst, (if monthsOk ((y, m, d), (12 : Int)) = true then monthsOn ((y, m, d), (12 : Int)) else ((0 : Int), (0 : Int), (0 : Int))).snd.snd) + (-1 : Int)) else ((0 : Int), (0 : Int), (0 : Int))).fst, SV.int IntKind.i64 (if addOk (((if monthsOk ((y, m, d), (12 : Int)) = true then monthsOn ((y, m, d), (12 : Int)) else ((0 : Int), (0 : Int), (0 : Int))).fst, (if monthsOk ((y, m, d), (12 : Int)) = true then monthsOn ((y, m, d), (12 : Int)) else ((0 : Int), (0 : Int), (0 : Int))).snd.fst, (if monthsOk ((y, m, d), (12 : Int)) = true then monthsOn ((y, m, d), (12 : Int)) else ((0 : Int), (0 : Int), (0 : Int))).snd.snd), (-1 : Int)) = true then ofS (numS ((if monthsOk ((y, m, d), (12 : Int)) = true then monthsOn ((y, m, d), (12 : Int)) else ((0 : Int), (0 : Int), (0 : Int))).fst, (if monthsOk ((y, m, d), (12 : Int)) = true then monthsOn ((y, m, d), (12 : Int)) else ((0 : Int), (0 : Int), (0 : Int))).snd.fst, (if monthsOk ((y, m, d), (12 : Int)) = true then monthsOn ((y, m, d), (12 : Int)) else ((0 : Int), (0 : Int), (0 : Int))).snd.snd) + (-1 : Int)) else ((0 : Int), (0 : Int), (0 : Int))).snd.fst, SV.int IntKind.i64 (if addOk (((if monthsOk ((y, m, d), (12 : Int)) = true then monthsOn ((y, m, d), (12 : Int)) else ((0 : Int), (0 : Int), (0 : Int))).fst, (if monthsOk ((y, m, d), (12 : Int)) = true then monthsOn ((y, m, d), (12 : Int)) else ((0 : Int), (0 : Int), (0 : Int))).snd.fst, (if monthsOk ((y, m, d), (12 : Int)) = true then monthsOn ((y, m, d), (12 : Int)) else ((0 : Int), (0 : Int), (0 : Int))).snd.snd), (-1 : Int)) = true then ofS (numS ((if monthsOk ((y, m, d), (12 : Int)) = true then monthsOn ((y, m, d), (12 : Int)) else ((0 : Int), (0 : Int), (0 : Int))).fst, (if monthsOk ((y, m, d), (12 : Int)) = true then monthsOn ((y, m, d), (12 : Int)) else ((0 : Int), (0 : Int), (0 : Int))).snd.fst, (if monthsOk ((y, m, d), (12 : Int)) = true then monthsOn ((y, m, d), (12 : Int)) else ((0 : Int), (0 : Int), (0 : Int))).snd.snd) + (-1 : Int)) else ((0 : Int), (0 : Int), (0 : Int))).snd.snd, SV.int IntKind.i64 (if rightS (y, m, d) = true then numS (y, m, d) else (0 : Int)), SV.int IntKind.i64 (if betweenOk ((y, m, d), (if monthsOk ((y, m, d), (12 : Int)) = true then monthsOn ((y, m, d), (12 : Int)) else ((0 : Int), (0 : Int), (0 : Int))).fst, (if monthsOk ((y, m, d), (12 : Int)) = true then monthsOn ((y, m, d), (12 : Int)) else ((0 : Int), (0 : Int), (0 : Int))).snd.fst, (if monthsOk ((y, m, d), (12 : Int)) = true then monthsOn ((y, m, d), (12 : Int)) else ((0 : Int), (0 : Int), (0 : Int))).snd.snd) = true then numS ((if monthsOk ((y, m, d), (12 : Int)) = true then monthsOn ((y, m, d), (12 : Int)) else ((0 : Int), (0 : Int), (0 : Int))).fst, (if monthsOk ((y, m, d), (12 : Int)) = true then monthsOn ((y, m, d), (12 : Int)) else ((0 : Int), (0 : Int), (0 : Int))).snd.fst, (if monthsOk ((y, m, d), (12 : Int)) = true then monthsOn ((y, m, d), (12 : Int)) else ((0 : Int), (0 : Int), (0 : Int))).snd.snd) - numS (y, m, d) else (0 : Int))]] = [SV.agg [SV.int IntKind.i64 f, SV.int IntKind.i64 y, SV.int IntKind.i64 m, SV.int IntKind.i64 d, SV.int IntKind.i64 (lstS y m d).fst, SV.int IntKind.i64 (lstS y m d).snd.fst, SV.int IntKind.i64 (lstS y m d).snd.snd, SV.int IntKind.i64 (numS (y, m, d)), SV.int IntKind.i64 (daysS y m d)]]) ∧ (((0 : Nat) = (0 : Nat)) ∧ (((0 : Nat) = (0 : Nat)) ∧ (((if betweenOk ((y, m, d), (if monthsOk ((y, m, d), (12 : Int)) = true then monthsOn ((y, m, d), (12 : Int)) else ((0 : Int), (0 : Int), (0 : Int))).fst, (if monthsOk ((y, m, d), (12 : Int)) = true then monthsOn ((y, m, d), (12 : Int)) else ((0 : Int), (0 : Int), (0 : Int))).snd.fst, (if monthsOk ((y, m, d), (12 : Int)) = true then monthsOn ((y, m, d), (12 : Int)) else ((0 : Int), (0 : Int), (0 : Int))).snd.snd) = true then (0 : Int) else (30 : Int)) = yrE f y m d) ∧ (True))))))))))) ∧ ((decide (m = (2 : Int)) = false) → ((((!decide ((if addOk (((if monthsOk ((y, m, d), (12 : Int)) = true then monthsOn ((y, m, d), (12 : Int)) else ((0 : Int), (0 : Int), (0 : Int))).fst, (if monthsOk ((y, m, d), (12 : Int)) = true then monthsOn ((y, m, d), (12 : Int)) else ((0 : Int), (0 : Int), (0 : Int))).snd.fst, (if monthsOk ((y, m, d), (12 : Int)) = true then monthsOn ((y, m, d), (12 : Int)) else ((0 : Int), (0 : Int), (0 : Int))).snd.snd), (-1 : Int)) = true then (0 : Int) else (30 : Int)) = (0 : Int))) = true) → ((yrOk f y m d = false) ∧ (((if addOk (((if monthsOk ((y, m, d), (12 : Int)) = true then monthsOn ((y, m, d), (12 : Int)) else ((0 : Int), (0 : Int), (0 : Int))).fst, (if monthsOk ((y, m, d), (12 : Int)) = true then monthsOn ((y, m, d), (12 : Int)) else ((0 : Int), (0 : Int), (0 : Int))).snd.fst, (if monthsOk ((y, m, d), (12 : Int)) = true then monthsOn ((y, m, d), (12 : Int)) else ((0 : Int), (0 : Int), (0 : Int))).snd.snd), (-1 : Int)) = true then (0 : Int) else (30 : Int)) = yrE f y m d) ∧ (True)))) ∧ (((!decide ((if addOk (((if monthsOk ((y, m, d), (12 : Int)) = true then monthsOn ((y, m, d), (12 : Int)) else ((0 : Int), (0 : Int), (0 : Int))).fst, (if monthsOk ((y, m, d), (12 : Int)) = true then monthsOn ((y, m, d), (12 : Int)) else ((0 : Int), (0 : Int), (0 : Int))).snd.fst, (if monthsOk ((y, m, d), (12 : Int)) = true then monthsOn ((y, m, d), (12 : Int)) else ((0 : Int), (0 : Int), (0 : Int))).snd.snd), (-1 : Int)) = true then (0 : Int) else (30 : Int)) = (0 : Int))) = false) → ((yrOk f y m d = true) ∧ (([SV.agg [SV.int IntKind.i64 f, SV.int IntKind.i64 y, SV.int IntKind.i64 m, SV.int IntKind.i64 d, SV.int IntKind.i64 (if addOk (((if monthsOk ((y, m, d), (12 : Int)) = true then monthsOn ((y, m, d), (12 : Int)) else ((0 : Int), (0 : Int), (0 : Int))).fst, (if monthsOk ((y, m, d), (12 : Int)) = true then monthsOn ((y, m, d), (12 : Int)) else ((0 : Int), (0 : Int), (0 : Int))).snd.fst, (if monthsOk ((y, m, d), (12 : Int)) = true then monthsOn ((y, m, d), (12 : Int)) else ((0 : Int), (0 : Int), (0 : Int))).snd.snd), (-1 : Int)) = true then ofS (numS ((if monthsOk ((y, m, d), (12 : Int)) = true then monthsOn ((y, m, d), (12 : Int)) else ((0 : Int), (0 : Int), (0 : Int))).fst, (if monthsOk ((y, m, d), (12 : Int)) = true then monthsOn ((y, m, d), (12 : Int)) else ((0 : Int), (0 : Int), (0 : Int))).snd.fst, (if monthsOk ((y, m, d), (12 : Int)) = true then monthsOn ((y, m, d), (12 : Int)) else ((0 : Int), (0 : Int), (0 : Int))).snd.snd) + (-1 : Int)) else ((0 : Int), (0 : Int), (0 : Int))).fst, SV.int IntKind.i64 (if addOk (((if monthsOk ((y, m, d), (12 : Int)) = true then monthsOn ((y, m, d), (12 : Int)) else ((0 : Int), (0 : Int), (0 : Int))).fst, (if monthsOk ((y, m, d), (12 : Int)) = true then monthsOn ((y, m, d), (12 : Int)) else ((0 : Int), (0 : Int), (0 : Int))).snd.fst, (if monthsOk ((y, m, d), (12 : Int)) = true then monthsOn ((y, m, d), (12 : Int)) else ((0 : Int), (0 : Int), (0 : Int))).snd.snd), (-1 : Int)) = true then ofS (numS ((if monthsOk ((y, m, d), (12 : Int)) = true then monthsOn ((y, m, d), (12 : Int)) else ((0 : Int), (0 : Int), (0 : Int))).fst, (if monthsOk ((y, m, d), (12 : Int)) = true then monthsOn ((y, m, d), (12 : Int)) else ((0 : Int), (0 : Int), (0 : Int))).snd.fst, (if monthsOk ((y, m, d), (12 : Int)) = true then monthsOn ((y, m, d), (12 : Int)) else ((0 : Int), (0 : Int), (0 : Int))).snd.snd) + (-1 : Int)) else ((0 : Int), (0 : Int), (0 : Int))).snd.fst, SV.int IntKind.i64 (if addOk (((if monthsOk ((y, m, d), (12 : Int)) = true then monthsOn ((y, m, d), (12 : Int)) else ((0 : Int), (0 : Int), (0 : Int))).fst, (if monthsOk ((y, m, d), (12 : Int)) = true then monthsOn ((y, m, d), (12 : Int)) else ((0 : Int), (0 : Int), (0 : Int))).snd.fst, (if monthsOk ((y, m, d), (12 : Int)) = true then monthsOn ((y, m, d), (12 : Int)) else ((0 : Int), (0 : Int), (0 : Int))).snd.snd), (-1 : Int)) = true then ofS (numS ((if monthsOk ((y, m, d), (12 : Int)) = true then monthsOn ((y, m, d), (12 : Int)) else ((0 : Int), (0 : Int), (0 : Int))).fst, (if monthsOk ((y, m, d), (12 : Int)) = true then monthsOn ((y, m, d), (12 : Int)) else ((0 : Int), (0 : Int), (0 : Int))).snd.fst, (if monthsOk ((y, m, d), (12 : Int)) = true then monthsOn ((y, m, d), (12 : Int)) else ((0 : Int), (0 : Int), (0 : Int))).snd.snd) + (-1 : Int)) else ((0 : Int), (0 : Int), (0 : Int))).snd.snd, SV.int IntKind.i64 (if rightS (y, m, d) = true then numS (y, m, d) else (0 : Int)), SV.int IntKind.i64 (if betweenOk ((y, m, d), (if monthsOk ((y, m, d), (12 : Int)) = true then monthsOn ((y, m, d), (12 : Int)) else ((0 : Int), (0 : Int), (0 : Int))).fst, (if monthsOk ((y, m, d), (12 : Int)) = true then monthsOn ((y, m, d), (12 : Int)) else ((0 : Int), (0 : Int), (0 : Int))).snd.fst, (if monthsOk ((y, m, d), (12 : Int)) = true then monthsOn ((y, m, d), (12 : Int)) else ((0 : Int), (0 : Int), (0 : Int))).snd.snd) = true then numS ((if monthsOk ((y, m, d), (12 : Int)) = true then monthsOn ((y, m, d), (12 : Int)) else ((0 : Int), (0 : Int), (0 : Int))).fst, (if monthsOk ((y, m, d), (12 : Int)) = true then monthsOn ((y, m, d), (12 : Int)) else ((0 : Int), (0 : Int), (0 : Int))).snd.fst, (if monthsOk ((y, m, d), (12 : Int)) = true then monthsOn ((y, m, d), (12 : Int)) else ((0 : Int), (0 : Int), (0 : Int))).snd.snd) - numS (y, m, d) else (0 : Int))]] = [SV.agg [SV.int IntKind.i64 f, SV.int IntKind.i64 y, SV.int IntKind.i64 m, SV.int IntKind.i64 d, SV.int IntKind.i64 (lstS y m d).fst, SV.int IntKind.i64 (lstS y m d).snd.fst, SV.int IntKind.i64 (lstS y m d).snd.snd, SV.int IntKind.i64 (numS (y, m, d)), SV.int IntKind.i64 (daysS y m d)]]) ∧ (((0 : Nat) = (0 : Nat)) ∧ (((0 : Nat) = (0 : Nat)) ∧ (((if betweenOk ((y, m, d), (if monthsOk ((y, m, d), (12 : Int)) = true then monthsOn ((y, m, d), (12 : Int)) else ((0 : Int), (0 : Int), (0 : Int))).fst, (if monthsOk ((y, m, d), (12 : Int)) = true then monthsOn ((y, m, d), (12 : Int)) else ((0 : Int), (0 : Int), (0 : Int))).snd.fst, (if monthsOk ((y, m, d), (12 : Int)) = true then monthsOn ((y, m, d), (12 : Int)) else ((0 : Int), (0 : Int), (0 : Int))).snd.snd) = true then (0 : Int) else (30 : Int)) = yrE f y m d) ∧ (True))))))))))))))) := by kernel_rfl
def sh_pfreq : List SV → Option (Bool × Int × Int × Int × Int × Int × Int × Int × Int × Int)
  | [p'] => (match epOf [.int .i64, .int .i64, .int .i64, .int .i64, .int .i64, .int .i64, .int .i64, .int .i64, .int .i64] p' with | some (p, [.agg [.int .i64 f, .int .i64 y, .int .i64 m, .int .i64 d, .int .i64 ey, .int .i64 em, .int .i64 ed, .int .i64 fi, .int .i64 dy]]) => some (p, f, y, m, d, ey, em, ed, fi, dy) | _ => none)
  | _ => none
def em_pfreq : Bool × Int × Int × Int × Int × Int × Int × Int × Int × Int → List SV := fun (p, f, y, m, d, ey, em, ed, fi, dy) => [.oep p [.int .i64, .int .i64, .int .i64, .int .i64, .int .i64, .int .i64, .int .i64, .int .i64, .int .i64] [.agg [.int .i64 f, .int .i64 y, .int .i64 m, .int .i64 d, .int .i64 ey, .int .i64 em, .int .i64 ed, .int .i64 fi, .int .i64 dy]] 0 0]
theorem sh_pfreq_le : ∀ us a, sh_pfreq us = some a → leL us (em_pfreq a) := by
  intro us a h
  unfold sh_pfreq at h
  split at h
  · split at h
    · cases h; exact (.cons (.oep (by assumption)) .nil)
    · cases h
  · cases h
def pfreqC : Con := conOf sh_pfreq (fun (p, f, y, m, d, ey, em, ed, fi, dy) => some (Ob (p = true))) (fun (p, f, y, m, d, ey, em, ed, fi, dy) => .int .i64 f)
set_option maxRecDepth 100000 in
theorem vc_pfreq (p : Bool) (f : Int) (y : Int) (m : Int) (d : Int) (ey : Int) (em : Int) (ed : Int) (fi : Int) (dy : Int) : (wpF ⟨7, tyT, [], false⟩ (noAnn) [] Try.f14 (em_pfreq (p, f, y, m, d, ey, em, ed, fi, dy)) (.int .i64 f)) = ((Ob ((p = true)) ∧ ((f = f) ∧ (True)))) := by kernel_rfl
def sh_pstart : List SV → Option (Bool × Int × Int × Int × Int × Int × Int × Int × Int × Int)
  | [p'] => (match epOf [.int .i64, .int .i64, .int .i64, .int .i64, .int .i64, .int .i64, .int .i64, .int .i64, .int .i64] p' with | some (p, [.agg [.int .i64 f, .int .i64 y, .int .i64 m, .int .i64 d, .int .i64 ey, .int .i64 em, .int .i64 ed, .int .i64 fi, .int .i64 dy]]) => some (p, f, y, m, d, ey, em, ed, fi, dy) | _ => none)
  | _ => none
def em_pstart : Bool × Int × Int × Int × Int × Int × Int × Int × Int × Int → List SV := fun (p, f, y, m, d, ey, em, ed, fi, dy) => [.oep p [.int .i64, .int .i64, .int .i64, .int .i64, .int .i64, .int .i64, .int .i64, .int .i64, .int .i64] [.agg [.int .i64 f, .int .i64 y, .int .i64 m, .int .i64 d, .int .i64 ey, .int .i64 em, .int .i64 ed, .int .i64 fi, .int .i64 dy]] 0 0]
theorem sh_pstart_le : ∀ us a, sh_pstart us = some a → leL us (em_pstart a) := by
  intro us a h
  unfold sh_pstart at h
  split at h
  · split at h
    · cases h; exact (.cons (.oep (by assumption)) .nil)
    · cases h
  · cases h
def pstartC : Con := conOf sh_pstart (fun (p, f, y, m, d, ey, em, ed, fi, dy) => some (Ob (p = true))) (fun (p, f, y, m, d, ey, em, ed, fi, dy) => .agg [.int .i64 y, .int .i64 m, .int .i64 d])
set_option maxRecDepth 100000 in
theorem vc_pstart (p : Bool) (f : Int) (y : Int) (m : Int) (d : Int) (ey : Int) (em : Int) (ed : Int) (fi : Int) (dy : Int) : (wpF ⟨7, tyT, [], false⟩ (noAnn) [] Try.f13 (em_pstart (p, f, y, m, d, ey, em, ed, fi, dy)) (.agg [.int .i64 y, .int .i64 m, .int .i64 d])) = ((Ob ((p = true)) ∧ ((y = y) ∧ ((m = m) ∧ ((d = d) ∧ (True)))))) := by kernel_rfl
def sh_pend : List SV → Option (Bool × Int × Int × Int × Int × Int × Int × Int × Int × Int)
  | [p'] => (match epOf [.int .i64, .int .i64, .int .i64, .int .i64, .int .i64, .int .i64, .int .i64, .int .i64, .int .i64] p' with | some (p, [.agg [.int .i64 f, .int .i64 y, .int .i64 m, .int .i64 d, .int .i64 ey, .int .i64 em, .int .i64 ed, .int .i64 fi, .int .i64 dy]]) => some (p, f, y, m, d, ey, em, ed, fi, dy) | _ => none)
  | _ => none
def em_pend : Bool × Int × Int × Int × Int × Int × Int × Int × Int × Int → List SV := fun (p, f, y, m, d, ey, em, ed, fi, dy) => [.oep p [.int .i64, .int .i64, .int .i64, .int .i64, .int .i64, .int .i64, .int .i64, .int .i64, .int .i64] [.agg [.int .i64 f, .int .i64 y, .int .i64 m, .int .i64 d, .int .i64 ey, .int .i64 em, .int .i64 ed, .int .i64 fi, .int .i64 dy]] 0 0]
theorem sh_pend_le : ∀ us a, sh_pend us = some a → leL us (em_pend a) := by
  intro us a h
  unfold sh_pend at h
  split at h
  · split at h
    · cases h; exact (.cons (.oep (by assumption)) .nil)
    · cases h
  · cases h
def pendC : Con := conOf sh_pend (fun (p, f, y, m, d, ey, em, ed, fi, dy) => some (Ob (p = true))) (fun (p, f, y, m, d, ey, em, ed, fi, dy) => .agg [.int .i64 ey, .int .i64 em, .int .i64 ed])
set_option maxRecDepth 100000 in
theorem vc_pend (p : Bool) (f : Int) (y : Int) (m : Int) (d : Int) (ey : Int) (em : Int) (ed : Int) (fi : Int) (dy : Int) : (wpF ⟨7, tyT, [], false⟩ (noAnn) [] Try.f17 (em_pend (p, f, y, m, d, ey, em, ed, fi, dy)) (.agg [.int .i64 ey, .int .i64 em, .int .i64 ed])) = ((Ob ((p = true)) ∧ ((ey = ey) ∧ ((em = em) ∧ ((ed = ed) ∧ (True)))))) := by kernel_rfl
def sh_pcount : List SV → Option (Bool × Int × Int × Int × Int × Int × Int × Int × Int × Int)
  | [p'] => (match epOf [.int .i64, .int .i64, .int .i64, .int .i64, .int .i64, .int .i64, .int .i64, .int .i64, .int .i64] p' with | some (p, [.agg [.int .i64 f, .int .i64 y, .int .i64 m, .int .i64 d, .int .i64 ey, .int .i64 em, .int .i64 ed, .int .i64 fi, .int .i64 dy]]) => some (p, f, y, m, d, ey, em, ed, fi, dy) | _ => none)
  | _ => none
def em_pcount : Bool × Int × Int × Int × Int × Int × Int × Int × Int × Int → List SV := fun (p, f, y, m, d, ey, em, ed, fi, dy) => [.oep p [.int .i64, .int .i64, .int .i64, .int .i64, .int .i64, .int .i64, .int .i64, .int .i64, .int .i64] [.agg [.int .i64 f, .int .i64 y, .int .i64 m, .int .i64 d, .int .i64 ey, .int .i64 em, .int .i64 ed, .int .i64 fi, .int .i64 dy]] 0 0]
theorem sh_pcount_le : ∀ us a, sh_pcount us = some a → leL us (em_pcount a) := by
  intro us a h
  unfold sh_pcount at h
  split at h
  · split at h
    · cases h; exact (.cons (.oep (by assumption)) .nil)
    · cases h
  · cases h
def pcountC : Con := conOf sh_pcount (fun (p, f, y, m, d, ey, em, ed, fi, dy) => some (Ob (p = true ∧ 0 ≤ dy ∧ dy ≤ 1000))) (fun (p, f, y, m, d, ey, em, ed, fi, dy) => .int .i64 (cntS f dy))
set_option maxRecDepth 100000 in
theorem vc_pcount (p : Bool) (f : Int) (y : Int) (m : Int) (d : Int) (ey : Int) (em : Int) (ed : Int) (fi : Int) (dy : Int) : (wpF ⟨25, tyT, [(38, plenC), (20, pnomC)], false⟩ (noAnn) [] Try.f19 (em_pcount (p, f, y, m, d, ey, em, ed, fi, dy)) (.int .i64 (cntS f dy))) = ((Ob ((p = true)) ∧ (((decide (lngS f = (0 : Int)) = true) → (Ob ((p = true)) ∧ ((nomS f = cntS f dy) ∧ (True)))) ∧ ((decide (lngS f = (0 : Int)) = false) → (Ob ((p = true)) ∧ (Ob ((lngS f ≠ (0 : Int))) ∧ ((IntKind.i64.wrap ((IntKind.i64.wrap (IntKind.i64.wrap (dy + lngS f) - (1 : Int))).tdiv (lngS f)) = cntS f dy) ∧ (True)))))))) := by kernel_rfl
theorem pnom_known : Known Try.prog 20 pnomC := by
  refine known1 (nt := 12) (An := fun f => noAnn) (labs := []) (lit := false) (em := em_pnom) sh_pnom_le (by kernel_rfl) mixedT tyT_ok .nil Try.func20 (by kernel_rfl) (fun a => by kernel_rfl) (fun a => by rfl) (fun f ha => ?_)
  refine ⟨_, vc_pnom f, ?_⟩
  unfold nomS
  repeat' first | exact trivial | with_reducible rfl | apply And.intro | apply Ob.mk | intro _
  all_goals simp_all

theorem plen_known : Known Try.prog 38 plenC := by
  refine known1 (nt := 10) (An := fun f => noAnn) (labs := []) (lit := false) (em := em_plen) sh_plen_le (by kernel_rfl) mixedT tyT_ok .nil Try.func38 (by kernel_rfl) (fun a => by kernel_rfl) (fun a => by rfl) (fun f ha => ?_)
  refine ⟨_, vc_plen f, ?_⟩
  unfold lngS
  repeat' first | exact trivial | with_reducible rfl | apply And.intro | apply Ob.mk | intro _
  all_goals simp_all

/-- The day twelve months on. -/
theorem next_ok {y m d : Int} (h : monthsOk ((y, m, d), 12) = true) : rightS (y, m, d) = true ∧ rightS (monthsOn ((y, m, d), 12)) = true ∧ (numS (y, m, d) + 300 ≤ nxtN y m d ∧ nxtN y m d ≤ numS (y, m, d) + 367) ∧ addOk (monthsOn ((y, m, d), 12), -1) = true := by
  simp only [monthsOk, Bool.and_eq_true, decide_eq_true_eq] at h
  obtain ⟨⟨⟨h1, _⟩, _⟩, h2⟩ := h
  have r := right_in h1
  have e : monthsOn ((y, m, d), 12) = (y + 1, m, min d (lastS (y + 1) m)) := by
    simp only [monthsOn]
    rw [show (12 * y + m - 1 + 12) / 12 = y + 1 by omega, show (12 * y + m - 1 + 12) % 12 + 1 = m by omega]
  rw [e] at h2
  have r2 := right_in h2
  have hnum : numS (y, m, d) + 300 ≤ nxtN y m d ∧ nxtN y m d ≤ numS (y, m, d) + 367 := by
    unfold nxtN
    rw [e]
    simp only [numS, years_next, monthsS]
    have hl := longS_or y
    split <;> split <;> omega
  refine ⟨h1, by rw [e]; exact h2, hnum, ?_⟩
  have p1 := num_pos h1
  have p2 := num_pos h2
  have hN : numS (y + 1, m, min d (lastS (y + 1) m)) = nxtN y m d := by unfold nxtN; rw [e]
  have : thereS (numS (y + 1, m, min d (lastS (y + 1) m)) + -1) = true := there_iff.2 (by omega)
  rw [e]
  simp [addOk, h2, this]

theorem pnew_known : Known Try.prog 11 pnewC := by
  refine known1 (nt := 64) (An := fun (f, y, m, d) => noAnn) (labs := []) (lit := false) (em := em_pnew) sh_pnew_le (by kernel_rfl) mixedT tyT_ok (.cons pnom_known (.cons dmonths_known (.cons dadd_known (.cons dnumber_known (.cons dbetween_known .nil))))) Try.func11 (by kernel_rfl) (fun a => by obtain ⟨f, y, m, d⟩ := a; kernel_rfl) (fun a => by obtain ⟨f, y, m, d⟩ := a; rfl) (fun a ha => ?_)
  obtain ⟨f, y, m, d⟩ := a
  refine ⟨_, vc_pnew f y m d, ?_⟩
  have hn0 : nomS f = 0 ↔ ¬ (1 ≤ f ∧ f ≤ 4) := by
    unfold nomS
    (repeat' split) <;> omega
  by_cases hf : 1 ≤ f ∧ f ≤ 4
  · have hn1 : nomS f ≠ 0 := fun h => hn0.1 h hf
    have hE : yrE f y m d = if yrOk f y m d = true then 0 else 30 := by unfold yrE; rw [if_pos hf]
    have hO : yrOk f y m d = (monthsOk ((y, m, d), 12) && !(decide (m = 2) && decide (d = 29))) := by simp [yrOk, hf.1, hf.2]
    cases hm : monthsOk ((y, m, d), 12) with
    | false =>
      rw [hm, Bool.false_and] at hO
      rw [hE, hO]
      simp [hn1]
    | true =>
      rw [hm, Bool.true_and] at hO
      by_cases hb : m = 2 ∧ d = 29
      · have : yrOk f y m d = false := by rw [hO]; simp [hb.1, hb.2]
        rw [hE, this]
        simp [hn1, hb.1, hb.2]
      · have ho : yrOk f y m d = true := by
          rw [hO]
          by_cases h2 : m = 2
          · simp [h2, show ¬ d = 29 from fun h => hb ⟨h2, h⟩]
          · simp [h2]
        obtain ⟨k1, k2, k3, k4⟩ := next_ok hm
        rw [hE, ho]
        simp only [if_true]
        have e : ((monthsOn ((y, m, d), 12)).fst, (monthsOn ((y, m, d), 12)).snd.fst, (monthsOn ((y, m, d), 12)).snd.snd) = monthsOn ((y, m, d), 12) := rfl
        simp only [e, k1, k2, k4]
        have hbt : betweenOk ((y, m, d), monthsOn ((y, m, d), 12)) = true := by simp [betweenOk, k1, k2]
        rw [hbt]
        simp only [Int.reduceLE, Int.reduceLT, Int.reduceEq, Int.reduceNe, Nat.reduceLeDiff, Nat.reduceEqDiff, beq_eq_false_iff_ne, beq_iff_eq, decide_eq_decide, ne_eq, eq_self, true_and, and_true, and_self, and_false, false_and, Bool.not_true, Bool.not_false, Bool.false_eq_true, Bool.true_eq_false, false_implies, true_implies, implies_true, imp_false, not_true, not_false_eq_true, decide_eq_true_eq, decide_eq_false_iff_not, Bool.not_eq_true', Bool.not_eq_false', Bool.and_eq_true, Classical.not_not, decide_true, decide_false, Bool.and_true, Bool.true_and, if_true, if_false, Ob_iff]
        refine ⟨hn1, fun _ => ⟨fun h2 => ⟨fun h3 => hb ⟨h2, h3⟩, fun _ => rfl⟩, fun _ => rfl⟩⟩
  · have hn1 : nomS f = 0 := hn0.2 hf
    have hE : yrE f y m d = 40 := by unfold yrE; rw [if_neg hf]
    have hO : yrOk f y m d = false := by
      have : (decide (1 ≤ f) && decide (f ≤ 4)) = false := by simp; omega
      simp [yrOk, this]
    simp [hn1, hE, hO]

theorem pfreq_known : Known Try.prog 14 pfreqC := by
  refine known1 (nt := 7) (An := fun (p, f, y, m, d, ey, em, ed, fi, dy) => noAnn) (labs := []) (lit := false) (em := em_pfreq) sh_pfreq_le (by kernel_rfl) mixedT tyT_ok .nil Try.func14 (by kernel_rfl) (fun a => by obtain ⟨p, f, y, m, d, ey, em, ed, fi, dy⟩ := a; kernel_rfl) (fun a => by obtain ⟨p, f, y, m, d, ey, em, ed, fi, dy⟩ := a; rfl) (fun a ha => ?_)
  obtain ⟨p, f, y, m, d, ey, em, ed, fi, dy⟩ := a
  replace ha : p = true := ha.out
  refine ⟨_, vc_pfreq p f y m d ey em ed fi dy, ?_⟩
  subst ha
  repeat' first | exact trivial | with_reducible rfl | apply And.intro | apply Ob.mk | intro _

theorem pstart_known : Known Try.prog 13 pstartC := by
  refine known1 (nt := 7) (An := fun (p, f, y, m, d, ey, em, ed, fi, dy) => noAnn) (labs := []) (lit := false) (em := em_pstart) sh_pstart_le (by kernel_rfl) mixedT tyT_ok .nil Try.func13 (by kernel_rfl) (fun a => by obtain ⟨p, f, y, m, d, ey, em, ed, fi, dy⟩ := a; kernel_rfl) (fun a => by obtain ⟨p, f, y, m, d, ey, em, ed, fi, dy⟩ := a; rfl) (fun a ha => ?_)
  obtain ⟨p, f, y, m, d, ey, em, ed, fi, dy⟩ := a
  replace ha : p = true := ha.out
  refine ⟨_, vc_pstart p f y m d ey em ed fi dy, ?_⟩
  subst ha
  repeat' first | exact trivial | with_reducible rfl | apply And.intro | apply Ob.mk | intro _

theorem pend_known : Known Try.prog 17 pendC := by
  refine known1 (nt := 7) (An := fun (p, f, y, m, d, ey, em, ed, fi, dy) => noAnn) (labs := []) (lit := false) (em := em_pend) sh_pend_le (by kernel_rfl) mixedT tyT_ok .nil Try.func17 (by kernel_rfl) (fun a => by obtain ⟨p, f, y, m, d, ey, em, ed, fi, dy⟩ := a; kernel_rfl) (fun a => by obtain ⟨p, f, y, m, d, ey, em, ed, fi, dy⟩ := a; rfl) (fun a ha => ?_)
  obtain ⟨p, f, y, m, d, ey, em, ed, fi, dy⟩ := a
  replace ha : p = true := ha.out
  refine ⟨_, vc_pend p f y m d ey em ed fi dy, ?_⟩
  subst ha
  repeat' first | exact trivial | with_reducible rfl | apply And.intro | apply Ob.mk | intro _

theorem pcount_known : Known Try.prog 19 pcountC := by
  refine known1 (nt := 25) (An := fun (p, f, y, m, d, ey, em, ed, fi, dy) => noAnn) (labs := []) (lit := false) (em := em_pcount) sh_pcount_le (by kernel_rfl) mixedT tyT_ok (.cons plen_known (.cons pnom_known .nil)) Try.func19 (by kernel_rfl) (fun a => by obtain ⟨p, f, y, m, d, ey, em, ed, fi, dy⟩ := a; kernel_rfl) (fun a => by obtain ⟨p, f, y, m, d, ey, em, ed, fi, dy⟩ := a; rfl) (fun a ha => ?_)
  obtain ⟨p, f, y, m, d, ey, em, ed, fi, dy⟩ := a
  replace ha : p = true ∧ 0 ≤ dy ∧ dy ≤ 1000 := ha.out
  refine ⟨_, vc_pcount p f y m d ey em ed fi dy, ?_⟩
  obtain ⟨rfl, h1, h2⟩ := ha
  have hl : lngS f = 0 ∨ lngS f = 7 ∨ lngS f = 14 ∨ lngS f = 28 := by unfold lngS; (repeat' split) <;> simp
  simp only [Int.reduceLE, Int.reduceLT, Int.reduceEq, Int.reduceNe, Nat.reduceLeDiff, Nat.reduceEqDiff, beq_eq_false_iff_ne, beq_iff_eq, decide_eq_decide, ne_eq, eq_self, true_and, and_true, and_self, and_false, false_and, Bool.not_true, Bool.not_false, Bool.false_eq_true, Bool.true_eq_false, false_implies, true_implies, implies_true, imp_false, not_true, not_false_eq_true, decide_eq_true_eq, decide_eq_false_iff_not, Bool.not_eq_true', Bool.not_eq_false', Bool.and_eq_true, Classical.not_not, decide_true, decide_false, Bool.and_true, Bool.true_and, if_true, if_false, Ob_iff]
  refine ⟨fun h => ?_, fun h => ⟨h, ?_⟩⟩
  · unfold cntS; rw [if_pos h]
  · unfold cntS
    rw [if_neg h, wrapI (n := dy + lngS f) (by omega), wrapI (n := dy + lngS f - 1) (by omega), Int.tdiv_eq_ediv_of_nonneg (by omega)]
    have h3 : 0 ≤ (dy + lngS f - 1) / lngS f := Int.ediv_nonneg (by omega) (by omega)
    have h4 : (dy + lngS f - 1) / lngS f ≤ dy + lngS f - 1 := Int.ediv_le_self _ (by omega)
    exact wrapI (by omega)

end Go.Rx
