/- What is withheld: the plan that makes a shortfall good; of more no less is withheld. -/
import Derived.Test.YtgfikjcofjagiaaHoldY
namespace Go.Rx
open Go.Proofs
set_option linter.unusedSimpArgs false
set_option linter.unusedVariables false

/-- The plan, step by step: what stands behind so many of them; how many there are. -/
def rs (r c d w s : Int) : Nat → Int × Int
  | 0 => (w, s)
  | i + 1 => (stepW r (rs r c d w s i).1 (rs r c d w s i).2 c d true, stepS r (rs r c d w s i).1 (rs r c d w s i).2 c d true)
def rE (r c d w s : Int) (i : Nat) : Int := stepE r (rs r c d w s i).1 (rs r c d w s i).2 c d true
def rH (r c d w s : Int) (i : Nat) : Int := stepH r (rs r c d w s i).1 (rs r c d w s i).2 c d true
def rOut (r c d w s : Int) (n : Nat) : List SV := (List.range n).map fun i => .int .i64 (rH r c d w s i)
/-- How the plan ends: an error, or so many steps. -/
def rFin (r c d w s : Int) : Nat → Nat → Int × Nat
  | 0, i => (0, i)
  | f + 1, i => if 0 < (rs r c d w s i).2 then (if rE r c d w s i = 0 then (if rH r c d w s i = 0 then (0, i + 1) else rFin r c d w s f (i + 1)) else (rE r c d w s i, 0)) else (0, i)
def pOk (w s m : Int) : Int := if m < 0 ∨ 600 < m then 2 else if rightB w = true ∧ rightB s = true ∧ rightB (w + s) = true then 0 else 10
def pFin (r c w s m : Int) : Int × Nat := rFin r c (w + s) w s m.toNat 0
def pE (r c w s m : Int) : Int := if pOk w s m = 0 then (pFin r c w s m).1 else pOk w s m
def pN (r c w s m : Int) : Nat := if pE r c w s m = 0 then (pFin r c w s m).2 else 0
def pLeft (r c w s m : Int) : Int := if pE r c w s m = 0 then (rs r c (w + s) w s (pN r c w s m)).2 else 0
def rec_an (r c w s m : Int) : Nat → Option Ann
  | 0 => some ⟨Nat, fun i => ⟨[(2, .int .i64 c), (3, .int .i64 m), (4, .ptr 4 0), (5, .ptr 5 0), (8, .ptr 8 0), (10, .int .i64 (w + s)), (11, .ptr 11 0)],
      [(4, .box 31 [.any, .any, .any, .int .i64 r, .any]), (5, .box 23 [.int .i64 (rs r c (w + s) w s i).1, .int .i64 (rs r c (w + s) w s i).2]), (8, .box 50 [.nilsl, .int .i64 0]), (11, .box 50 [.osl 66 0, .int .i64 0]), (66, .row 0 2 [.int .i64] (rOut r c (w + s) w s i))]⟩,
      fun i => (i : Int) ≤ m ∧ m ≤ 600 ∧ rFin r c (w + s) w s (m.toNat - i) i = pFin r c w s m ∧ pOk w s m = 0, fun i => m.toNat - i, [2, 3, 4, 5, 8, 10, 11], [4, 5, 8, 11, 66], [(101100, 66, 2, [.int .i64])]⟩
  | _ => none
def hrec_an (r c w s m : Int) : Nat → Option Ann
  | 0 => some ⟨Nat, fun i => ⟨[(4, .ptr 4 0), (8, .int .i64 m), (10, .ptr 10 0), (12, .int .i64 (limV r c)), (14, .int .i64 (s - (rs r c (w + s) w s i).2)), (123, .sl [.int .i64] (rOut r c (w + s) w s (pN r c w s m))), (124, .int .i64 (pN r c w s m)), (125, .int .i64 i)],
      [(4, .box 23 [.int .i64 w, .int .i64 s]), (10, .box 50 [.sl [.int .i64] (rOut r c (w + s) w s (pN r c w s m)), .int .i64 (pLeft r c w s m)])]⟩,
      fun i => i ≤ pN r c w s m, fun i => pN r c w s m - i, [4, 8, 10, 12, 14, 123, 124, 125], [4, 10], []⟩
  | _ => none

def sh_recoup : List SV → Option (Int × Int × Int × Int × Int)
  | [.agg [_, _, _, .int .i64 r, _], .agg [.int .i64 w, .int .i64 s], .int .i64 c, .int .i64 m] => some (r, w, s, c, m)
  | _ => none
def em_recoup : Int × Int × Int × Int × Int → List SV := fun (r, w, s, c, m) => [.agg [.any, .any, .any, .int .i64 r, .any], .agg [.int .i64 w, .int .i64 s], .int .i64 c, .int .i64 m]
theorem sh_recoup_le : ∀ us a, sh_recoup us = some a → leL us (em_recoup a) := by
  intro us a h
  unfold sh_recoup at h
  split at h
  · cases h; exact (.cons (.agg (.cons (.any _) (.cons (.any _) (.cons (.any _) (.cons (.refl _) (.cons (.any _) .nil)))))) (.cons (.agg (.cons (.refl _) (.cons (.refl _) .nil))) (.cons (.refl _) (.cons (.refl _) .nil))))
  · cases h
def recoupC : Con := conOf sh_recoup (fun (r, w, s, c, m) => some (Ob (in64 m ∧ in64 w ∧ in64 s))) (fun (r, w, s, c, m) => .tup [.agg [.sl [.int .i64] (rOut r c (w + s) w s (pN r c w s m)), .int .i64 (pLeft r c w s m)], .int .i64 (pE r c w s m)])
set_option maxRecDepth 100000 in
theorem vc_recoup (r : Int) (w : Int) (s : Int) (c : Int) (m : Int) : (wpF ⟨75, tyT, [(17, rightC), (11, dueC), (9, stepC)], false⟩ ((rec_an r c w s m)) [] Try.f14 (em_recoup (r, w, s, c, m)) (.tup [.agg [.sl [.int .i64] (rOut r c (w + s) w s (pN r c w s m)), .int .i64 (pLeft r c w s m)], .int .i64 (pE r c w s m)])) = ((((decide (m < (0 : Int)) = true) → ((rOut r c (w + s) w s (pN r c w s m) = []) ∧ (((0 : Int) = pLeft r c w s m) ∧ (((2 : Int) = pE r c w s m) ∧ (True))))) ∧ ((decide (m < (0 : Int)) = false) → (((decide ((600 : Int) < m) = true) → ((rOut r c (w + s) w s (pN r c w s m) = []) ∧ (((0 : Int) = pLeft r c w s m) ∧ (((2 : Int) = pE r c w s m) ∧ (True))))) ∧ ((decide ((600 : Int) < m) = false) → (Ob (((2 : Nat) ≤ (9000000000000000000 : Nat))) ∧ ((((!rightL [SV.int IntKind.i64 w, SV.int IntKind.i64 s]) = true) → ((rOut r c (w + s) w s (pN r c w s m) = []) ∧ (((0 : Int) = pLeft r c w s m) ∧ (((10 : Int) = pE r c w s m) ∧ (True))))) ∧ (((!rightL [SV.int IntKind.i64 w, SV.int IntKind.i64 s]) = false) → (Ob (((1 : Nat) ≤ (9000000000000000000 : Nat))) ∧ ((((!rightL [SV.int IntKind.i64 (IntKind.i64.wrap (w + s))]) = true) → ((rOut r c (w + s) w s (pN r c w s m) = []) ∧ (((0 : Int) = pLeft r c w s m) ∧ (((10 : Int) = pE r c w s m) ∧ (True))))) ∧ (((!rightL [SV.int IntKind.i64 (IntKind.i64.wrap (w + s))]) = false) → ((∃ (x1 : Nat), ((c = c) ∧ ((m = m) ∧ ((IntKind.i64.wrap (w + s) = w + s) ∧ ((r = r) ∧ ((w = (rs r c (w + s) w s x1).fst) ∧ ((s = (rs r c (w + s) w s x1).snd) ∧ (((0 : Int) = (0 : Int)) ∧ (((0 : Int) = (0 : Int)) ∧ (([] = rOut r c (w + s) w s x1) ∧ ((((↑x1 : Int) ≤ m) ∧ ((m ≤ (600 : Int)) ∧ ((rFin r c (w + s) w s (m.toNat - x1) x1 = pFin r c w s m) ∧ (pOk w s m = (0 : Int))))) ∧ ((True) ∧ (True))))))))))))) ∧ ∀ (x2 : Nat), ((((↑x2 : Int) ≤ m) ∧ ((m ≤ (600 : Int)) ∧ ((rFin r c (w + s) w s (m.toNat - x2) x2 = pFin r c w s m) ∧ (pOk w s m = (0 : Int))))) → (((decide ((↑(rOut r c (w + s) w s x2).length : Int) < m) = true) → (((decide ((0 : Int) < (rs r c (w + s) w s x2).snd) = true) → ((((!decide (stepE r (rs r c (w + s) w s x2).fst (rs r c (w + s) w s x2).snd c (w + s) true = (0 : Int))) = true) → ((rOut r c (w + s) w s (pN r c w s m) = []) ∧ (((0 : Int) = pLeft r c w s m) ∧ ((stepE r (rs r c (w + s) w s x2).fst (rs r c (w + s) w s x2).snd c (w + s) true = pE r c w s m) ∧ (True))))) ∧ (((!decide (stepE r (rs r c (w + s) w s x2).fst (rs r c (w + s) w s x2).snd c (w + s) true = (0 : Int))) = false) → (Ob (((((rOut r c (w + s) w s x2).length + (1 : Nat)) * (8 : Nat) ≤ (1099511627776 : Nat)) ∧ ((rOut r c (w + s) w s x2).length + (1 : Nat) ≤ (1099511627776 : Nat)))) ∧ (((decide (stepH r (rs r c (w + s) w s x2).fst (rs r c (w + s) w s x2).snd c (w + s) true = (0 : Int)) = true) → ((rOut r c (w + s) w s x2 ++ [SV.int IntKind.i64 (stepH r (rs r c (w + s) w s x2).fst (rs r c (w + s) w s x2).snd c (w + s) true)] = rOut r c (w + s) w s (pN r c w s m)) ∧ ((stepS r (rs r c (w + s) w s x2).fst (rs r c (w + s) w s x2).snd c (w + s) true = pLeft r c w s m) ∧ (((0 : Int) = pE r c w s m) ∧ (True))))) ∧ ((decide (stepH r (rs r c (w + s) w s x2).fst (rs r c (w + s) w s x2).snd c (w + s) true = (0 : Int)) = false) → (∃ (x3 : Nat), ((c = c) ∧ ((m = m) ∧ ((w + s = w + s) ∧ ((r = r) ∧ ((stepW r (rs r c (w + s) w s x2).fst (rs r c (w + s) w s x2).snd c (w + s) true = (rs r c (w + s) w s x3).fst) ∧ ((stepS r (rs r c (w + s) w s x2).fst (rs r c (w + s) w s x2).snd c (w + s) true = (rs r c (w + s) w s x3).snd) ∧ (((0 : Int) = (0 : Int)) ∧ (((0 : Int) = (0 : Int)) ∧ ((rOut r c (w + s) w s x2 ++ [SV.int IntKind.i64 (stepH r (rs r c (w + s) w s x2).fst (rs r c (w + s) w s x2).snd c (w + s) true)] = rOut r c (w + s) w s x3) ∧ ((((↑x3 : Int) ≤ m) ∧ ((m ≤ (600 : Int)) ∧ ((rFin r c (w + s) w s (m.toNat - x3) x3 = pFin r c w s m) ∧ (pOk w s m = (0 : Int))))) ∧ ((m.toNat - x3 < m.toNat - x2) ∧ (True))))))))))))))))))) ∧ ((decide ((0 : Int) < (rs r c (w + s) w s x2).snd) = false) → ((rOut r c (w + s) w s x2 = rOut r c (w + s) w s (pN r c w s m)) ∧ (((rs r c (w + s) w s x2).snd = pLeft r c w s m) ∧ (((0 : Int) = pE r c w s m) ∧ (True))))))) ∧ ((decide ((↑(rOut r c (w + s) w s x2).length : Int) < m) = false) → ((rOut r c (w + s) w s x2 = rOut r c (w + s) w s (pN r c w s m)) ∧ (((rs r c (w + s) w s x2).snd = pLeft r c w s m) ∧ (((0 : Int) = pE r c w s m) ∧ (True))))))))))))))))))) := by kernel_rfl
def sh_hrecoups : List SV → Option (Int × Int × Int × Int × Int)
  | [.int .i64 rate, .agg [.int .i64 w, .int .i64 s], .agg [.int .i64 c, .int .i64 m]] => some (rate, w, s, c, m)
  | _ => none
def em_hrecoups : Int × Int × Int × Int × Int → List SV := fun (rate, w, s, c, m) => [.int .i64 rate, .agg [.int .i64 w, .int .i64 s], .agg [.int .i64 c, .int .i64 m]]
theorem sh_hrecoups_le : ∀ us a, sh_hrecoups us = some a → leL us (em_hrecoups a) := by
  intro us a h
  unfold sh_hrecoups at h
  split at h
  · cases h; exact (.cons (.refl _) (.cons (.agg (.cons (.refl _) (.cons (.refl _) .nil))) (.cons (.agg (.cons (.refl _) (.cons (.refl _) .nil))) .nil)))
  · cases h
def hrecoupsC : Con := conOf sh_hrecoups (fun (rate, w, s, c, m) => some (Ob (in64 rate ∧ in64 w ∧ in64 s ∧ in64 c ∧ in64 m))) (fun (rate, w, s, c, m) => .bool true)
set_option maxRecDepth 100000 in
theorem vc_hrecoups (rate : Int) (w : Int) (s : Int) (c : Int) (m : Int) : (wpF ⟨187, tyT, [(8, holdsC), (10, lawrightC), (14, recoupC), (13, limitC)], true⟩ ((hrec_an rate c w s m)) [] Try.f7 (em_hrecoups (rate, w, s, c, m)) (.bool true)) = (((((!true) = true) → ((true = false) ∧ (True))) ∧ (((!true) = false) → (Ob ((((0 : Int) ≤ (0 : Int)) ∧ ((0 : Int) < (2 : Int)))) ∧ (Ob ((((0 : Int) ≤ (1 : Int)) ∧ ((1 : Int) < (2 : Int)))) ∧ (((decide (m < (-1000 : Int)) = true) → ((true = true) ∧ (True))) ∧ ((decide (m < (-1000 : Int)) = false) → (((decide ((1000 : Int) < m) = true) → ((true = true) ∧ (True))) ∧ ((decide ((1000 : Int) < m) = false) → (Ob (((3 : Nat) ≤ (9000000000000000000 : Nat))) ∧ ((((!rightL [SV.int IntKind.i64 w, SV.int IntKind.i64 s, SV.int IntKind.i64 c]) = true) → ((true = true) ∧ (True))) ∧ (((!rightL [SV.int IntKind.i64 w, SV.int IntKind.i64 s, SV.int IntKind.i64 c]) = false) → (((decide (rate < (0 : Int)) = true) → ((true = true) ∧ (True))) ∧ ((decide (rate < (0 : Int)) = false) → (((decide ((10000 : Int) < rate) = true) → ((true = true) ∧ (True))) ∧ ((decide ((10000 : Int) < rate) = false) → (Ob (((in64 m) ∧ ((in64 w) ∧ (in64 s)))) ∧ (((decide (m < (0 : Int)) = true) → (((decide (pE rate c w s m = (2 : Int)) = true) → (((decide ((↑(rOut rate c (w + s) w s (pN rate c w s m)).length : Int) = (0 : Int)) = true) → ((decide (pLeft rate c w s m = (0 : Int)) = true) ∧ (True))) ∧ ((decide ((↑(rOut rate c (w + s) w s (pN rate c w s m)).length : Int) = (0 : Int)) = false) → ((true = false) ∧ (True))))) ∧ ((decide (pE rate c w s m = (2 : Int)) = false) → ((true = false) ∧ (True))))) ∧ ((decide (m < (0 : Int)) = false) → (((decide ((600 : Int) < m) = true) → (((decide (pE rate c w s m = (2 : Int)) = true) → (((decide ((↑(rOut rate c (w + s) w s (pN rate c w s m)).length : Int) = (0 : Int)) = true) → ((decide (pLeft rate c w s m = (0 : Int)) = true) ∧ (True))) ∧ ((decide ((↑(rOut rate c (w + s) w s (pN rate c w s m)).length : Int) = (0 : Int)) = false) → ((true = false) ∧ (True))))) ∧ ((decide (pE rate c w s m = (2 : Int)) = false) → ((true = false) ∧ (True))))) ∧ ((decide ((600 : Int) < m) = false) → (Ob (((1 : Nat) ≤ (9000000000000000000 : Nat))) ∧ ((((!rightL [SV.int IntKind.i64 (IntKind.i64.wrap (w + s))]) = true) → (((decide (pE rate c w s m = (10 : Int)) = true) → ((decide ((↑(rOut rate c (w + s) w s (pN rate c w s m)).length : Int) = (0 : Int)) = true) ∧ (True))) ∧ ((decide (pE rate c w s m = (10 : Int)) = false) → ((true = false) ∧ (True))))) ∧ (((!rightL [SV.int IntKind.i64 (IntKind.i64.wrap (w + s))]) = false) → ((((!decide (pE rate c w s m = (0 : Int))) = true) → (((decide (pE rate c w s m = (10 : Int)) = true) → ((decide ((↑(rOut rate c (w + s) w s (pN rate c w s m)).length : Int) = (0 : Int)) = true) ∧ (True))) ∧ ((decide (pE rate c w s m = (10 : Int)) = false) → ((true = false) ∧ (True))))) ∧ (((!decide (pE rate c w s m = (0 : Int))) = false) → (((decide (s ≤ (0 : Int)) = true) → (((decide ((↑(rOut rate c (w + s) w s (pN rate c w s m)).length : Int) = (0 : Int)) = true) → ((decide (pLeft rate c w s m = s) = true) ∧ (True))) ∧ ((decide ((↑(rOut rate c (w + s) w s (pN rate c w s m)).length : Int) = (0 : Int)) = false) → ((true = false) ∧ (True))))) ∧ ((decide (s ≤ (0 : Int)) = false) → ((∃ (x1 : Nat), ((m = m) ∧ ((limV rate c = limV rate c) ∧ (((0 : Int) = s - (rs rate c (w + s) w s x1).snd) ∧ ((rOut rate c (w + s) w s (pN rate c w s m) = rOut rate c (w + s) w s (pN rate c w s m)) ∧ (((↑(rOut rate c (w + s) w s (pN rate c w s m)).length : Int) = (↑(pN rate c w s m) : Int)) ∧ (((0 : Int) = (↑x1 : Int)) ∧ ((w = w) ∧ ((s = s) ∧ ((rOut rate c (w + s) w s (pN rate c w s m) = rOut rate c (w + s) w s (pN rate c w s m)) ∧ ((pLeft rate c w s m = pLeft rate c w s m) ∧ ((x1 ≤ pN rate c w s m) ∧ ((True) ∧ (True)))))))))))))) ∧ ∀ (x2 : Nat), ((x2 ≤ pN rate c w s m) → (((decide ((↑x2 : Int) < (↑(pN rate c w s m) : Int)) = true) → (Ob ((((0 : Int) ≤ (↑x2 : Int)) ∧ ((↑x2 : Int) < (↑(rOut rate c (w + s) w s (pN rate c w s m)).length : Int)))) ∧ (((decide (limV rate c < (elCell (rOut rate c (w + s) w s (pN rate c w s m)) x2 (0 : Nat)).toInt) = true) → ((true = false) ∧ (True))) ∧ ((decide (limV rate c < (elCell (rOut rate c (w + s) w s (pN rate c w s m)) x2 (0 : Nat)).toInt) = false) → (((decide ((elCell (rOut rate c (w + s) w s (pN rate c w s m)) x2 (0 : Nat)).toInt < (0 : Int)) = true) → ((true = false) ∧ (True))) ∧ ((decide ((elCell (rOut rate c (w + s) w s (pN rate c w s m)) x2 (0 : Nat)).toInt < (0 : Int)) = false) → (((decide (IntKind.i64.wrap ((↑x2 : Int) + (1 : Int)) < (↑(rOut rate c (w + s) w s (pN rate c w s m)).length : Int)) = true) → ((((!decide ((elCell (rOut rate c (w + s) w s (pN rate c w s m)) x2 (0 : Nat)).toInt = limV rate c)) = true) → ((true = false) ∧ (True))) ∧ (((!decide ((elCell (rOut rate c (w + s) w s (pN rate c w s m)) x2 (0 : Nat)).toInt = limV rate c)) = false) → (∃ (x3 : Nat), ((m = m) ∧ ((limV rate c = limV rate c) ∧ ((IntKind.i64.wrap (s - (rs rate c (w + s) w s x2).snd + (elCell (rOut rate c (w + s) w s (pN rate c w s m)) x2 (0 : Nat)).toInt) = s - (rs rate c (w + s) w s x3).snd) ∧ ((rOut rate c (w + s) w s (pN rate c w s m) = rOut rate c (w + s) w s (pN rate c w s m)) ∧ (((↑(pN rate c w s m) : Int) = (↑(pN rate c w s m) : Int)) ∧ ((IntKind.i64.wrap ((↑x2 : Int) + (1 : Int)) = (↑x3 : Int)) ∧ ((w = w) ∧ ((s = s) ∧ ((rOut rate c (w + s) w s (pN rate c w s m) = rOut rate c (w + s) w s (pN rate c w s m)) ∧ ((pLeft rate c w s m = pLeft rate c w s m) ∧ ((x3 ≤ pN rate c w s m) ∧ ((pN rate c w s m - x3 < pN rate c w s m - x2) ∧ (True))))))))))))))))) ∧ ((decide (IntKind.i64.wrap ((↑x2 : Int) + (1 : Int)) < (↑(rOut rate c (w + s) w s (pN rate c w s m)).length : Int)) = false) → (∃ (x4 : Nat), ((m = m) ∧ ((limV rate c = limV rate c) ∧ ((IntKind.i64.wrap (s - (rs rate c (w + s) w s x2).snd + (elCell (rOut rate c (w + s) w s (pN rate c w s m)) x2 (0 : Nat)).toInt) = s - (rs rate c (w + s) w s x4).snd) ∧ ((rOut rate c (w + s) w s (pN rate c w s m) = rOut rate c (w + s) w s (pN rate c w s m)) ∧ (((↑(pN rate c w s m) : Int) = (↑(pN rate c w s m) : Int)) ∧ ((IntKind.i64.wrap ((↑x2 : Int) + (1 : Int)) = (↑x4 : Int)) ∧ ((w = w) ∧ ((s = s) ∧ ((rOut rate c (w + s) w s (pN rate c w s m) = rOut rate c (w + s) w s (pN rate c w s m)) ∧ ((pLeft rate c w s m = pLeft rate c w s m) ∧ ((x4 ≤ pN rate c w s m) ∧ ((pN rate c w s m - x4 < pN rate c w s m - x2) ∧ (True)))))))))))))))))))))) ∧ ((decide ((↑x2 : Int) < (↑(pN rate c w s m) : Int)) = false) → ((((!decide (IntKind.i64.wrap (s - (rs rate c (w + s) w s x2).snd + pLeft rate c w s m) = s)) = true) → ((true = false) ∧ (True))) ∧ (((!decide (IntKind.i64.wrap (s - (rs rate c (w + s) w s x2).snd + pLeft rate c w s m) = s)) = false) → (((decide (pLeft rate c w s m < (0 : Int)) = true) → ((true = false) ∧ (True))) ∧ ((decide (pLeft rate c w s m < (0 : Int)) = false) → (((decide (m < (↑(rOut rate c (w + s) w s (pN rate c w s m)).length : Int)) = true) → ((true = false) ∧ (True))) ∧ ((decide (m < (↑(rOut rate c (w + s) w s (pN rate c w s m)).length : Int)) = false) → (((decide (pLeft rate c w s m = (0 : Int)) = true) → ((true = true) ∧ (True))) ∧ ((decide (pLeft rate c w s m = (0 : Int)) = false) → (((decide ((↑(rOut rate c (w + s) w s (pN rate c w s m)).length : Int) = m) = true) → ((true = true) ∧ (True))) ∧ ((decide ((↑(rOut rate c (w + s) w s (pN rate c w s m)).length : Int) = m) = false) → ((decide (limV rate c = (0 : Int)) = true) ∧ (True)))))))))))))))))))))))))))))))))))))))))))) := by kernel_rfl
def sh_hrises : List SV → Option (Int × Int × Int)
  | [.int .i64 rate, .int .i64 need, .int .i64 cash] => some (rate, need, cash)
  | _ => none
def em_hrises : Int × Int × Int → List SV := fun (rate, need, cash) => [.int .i64 rate, .int .i64 need, .int .i64 cash]
theorem sh_hrises_le : ∀ us a, sh_hrises us = some a → leL us (em_hrises a) := by
  intro us a h
  unfold sh_hrises at h
  split at h
  · cases h; exact (.cons (.refl _) (.cons (.refl _) (.cons (.refl _) .nil)))
  · cases h
def hrisesC : Con := conOf sh_hrises (fun (rate, need, cash) => some (Ob (in64 rate ∧ in64 need ∧ in64 cash))) (fun (rate, need, cash) => .bool true)
set_option maxRecDepth 100000 in
theorem vc_hrises (rate : Int) (need : Int) (cash : Int) : (wpF ⟨147, tyT, [(8, holdsC), (9, stepC)], true⟩ ((unrAn [(3000, (3, [1, 2, 7, 48, 49], [7]))])) [] Try.f6 (em_hrises (rate, need, cash)) (.bool true)) = (((((!true) = true) → ((true = false) ∧ (True))) ∧ (((!true) = false) → (((decide (rate < (0 : Int)) = true) → ((true = true) ∧ (True))) ∧ ((decide (rate < (0 : Int)) = false) → (((decide ((10000 : Int) < rate) = true) → ((true = true) ∧ (True))) ∧ ((decide ((10000 : Int) < rate) = false) → (((decide ((50000000000 : Int) < need) = true) → ((true = true) ∧ (True))) ∧ ((decide ((50000000000 : Int) < need) = false) → (((decide (need < (-50000000000 : Int)) = true) → ((true = true) ∧ (True))) ∧ ((decide (need < (-50000000000 : Int)) = false) → (((decide ((50000000000 : Int) < cash) = true) → ((true = true) ∧ (True))) ∧ ((decide ((50000000000 : Int) < cash) = false) → (((decide (cash < (-50000000000 : Int)) = true) → ((true = true) ∧ (True))) ∧ ((decide (cash < (-50000000000 : Int)) = false) → (Ob ((((0 : Int) ≤ (0 : Int)) ∧ ((0 : Int) < (2 : Int)))) ∧ ((((!decide (IntKind.i64.wrap (IntKind.i64.wrap (IntKind.i64.wrap (stepE rate (0 : Int) (0 : Int) cash need false + stepE rate (0 : Int) (0 : Int) cash (IntKind.i64.wrap (need + (1 : Int))) false) + stepE rate (0 : Int) (0 : Int) (IntKind.i64.wrap (cash + (1 : Int))) need false) + stepE rate (0 : Int) (0 : Int) (IntKind.i64.wrap (cash + (1 : Int))) (IntKind.i64.wrap (need + (1 : Int))) false) = (0 : Int))) = true) → ((true = false) ∧ (True))) ∧ (((!decide (IntKind.i64.wrap (IntKind.i64.wrap (IntKind.i64.wrap (stepE rate (0 : Int) (0 : Int) cash need false + stepE rate (0 : Int) (0 : Int) cash (IntKind.i64.wrap (need + (1 : Int))) false) + stepE rate (0 : Int) (0 : Int) (IntKind.i64.wrap (cash + (1 : Int))) need false) + stepE rate (0 : Int) (0 : Int) (IntKind.i64.wrap (cash + (1 : Int))) (IntKind.i64.wrap (need + (1 : Int))) false) = (0 : Int))) = false) → (((decide (stepH rate (0 : Int) (0 : Int) cash (IntKind.i64.wrap (need + (1 : Int))) false < stepH rate (0 : Int) (0 : Int) cash need false) = true) → ((true = false) ∧ (True))) ∧ ((decide (stepH rate (0 : Int) (0 : Int) cash (IntKind.i64.wrap (need + (1 : Int))) false < stepH rate (0 : Int) (0 : Int) cash need false) = false) → (((decide (stepH rate (0 : Int) (0 : Int) (IntKind.i64.wrap (cash + (1 : Int))) need false < stepH rate (0 : Int) (0 : Int) cash need false) = true) → ((true = false) ∧ (True))) ∧ ((decide (stepH rate (0 : Int) (0 : Int) (IntKind.i64.wrap (cash + (1 : Int))) need false < stepH rate (0 : Int) (0 : Int) cash need false) = false) → (((decide (stepH rate (0 : Int) (0 : Int) (IntKind.i64.wrap (cash + (1 : Int))) (IntKind.i64.wrap (need + (1 : Int))) false < stepH rate (0 : Int) (0 : Int) cash (IntKind.i64.wrap (need + (1 : Int))) false) = true) → ((true = false) ∧ (True))) ∧ ((decide (stepH rate (0 : Int) (0 : Int) (IntKind.i64.wrap (cash + (1 : Int))) (IntKind.i64.wrap (need + (1 : Int))) false < stepH rate (0 : Int) (0 : Int) cash (IntKind.i64.wrap (need + (1 : Int))) false) = false) → (((decide (stepH rate (0 : Int) (0 : Int) (IntKind.i64.wrap (cash + (1 : Int))) (IntKind.i64.wrap (need + (1 : Int))) false < stepH rate (0 : Int) (0 : Int) (IntKind.i64.wrap (cash + (1 : Int))) need false) = true) → ((true = false) ∧ (True))) ∧ ((decide (stepH rate (0 : Int) (0 : Int) (IntKind.i64.wrap (cash + (1 : Int))) (IntKind.i64.wrap (need + (1 : Int))) false < stepH rate (0 : Int) (0 : Int) (IntKind.i64.wrap (cash + (1 : Int))) need false) = false) → (((decide ((1 : Int) < IntKind.i64.wrap (stepH rate (0 : Int) (0 : Int) (IntKind.i64.wrap (cash + (1 : Int))) (IntKind.i64.wrap (need + (1 : Int))) false - stepH rate (0 : Int) (0 : Int) cash need false)) = true) → ((true = false) ∧ (True))) ∧ ((decide ((1 : Int) < IntKind.i64.wrap (stepH rate (0 : Int) (0 : Int) (IntKind.i64.wrap (cash + (1 : Int))) (IntKind.i64.wrap (need + (1 : Int))) false - stepH rate (0 : Int) (0 : Int) cash need false)) = false) → (((decide (need < stepH rate (0 : Int) (0 : Int) cash need false) = true) → (((decide (stepH rate (0 : Int) (0 : Int) cash need false < (0 : Int)) = true) → ((true = false) ∧ (True))) ∧ ((decide (stepH rate (0 : Int) (0 : Int) cash need false < (0 : Int)) = false) → (Ob ((((0 : Int) ≤ (1 : Int)) ∧ ((1 : Int) < (2 : Int)))) ∧ ((((!decide (IntKind.i64.wrap (IntKind.i64.wrap (IntKind.i64.wrap (stepE rate (0 : Int) (0 : Int) cash need true + stepE rate (0 : Int) (0 : Int) cash (IntKind.i64.wrap (need + (1 : Int))) true) + stepE rate (0 : Int) (0 : Int) (IntKind.i64.wrap (cash + (1 : Int))) need true) + stepE rate (0 : Int) (0 : Int) (IntKind.i64.wrap (cash + (1 : Int))) (IntKind.i64.wrap (need + (1 : Int))) true) = (0 : Int))) = true) → ((true = false) ∧ (True))) ∧ (((!decide (IntKind.i64.wrap (IntKind.i64.wrap (IntKind.i64.wrap (stepE rate (0 : Int) (0 : Int) cash need true + stepE rate (0 : Int) (0 : Int) cash (IntKind.i64.wrap (need + (1 : Int))) true) + stepE rate (0 : Int) (0 : Int) (IntKind.i64.wrap (cash + (1 : Int))) need true) + stepE rate (0 : Int) (0 : Int) (IntKind.i64.wrap (cash + (1 : Int))) (IntKind.i64.wrap (need + (1 : Int))) true) = (0 : Int))) = false) → (((decide (stepH rate (0 : Int) (0 : Int) cash (IntKind.i64.wrap (need + (1 : Int))) true < stepH rate (0 : Int) (0 : Int) cash need true) = true) → ((true = false) ∧ (True))) ∧ ((decide (stepH rate (0 : Int) (0 : Int) cash (IntKind.i64.wrap (need + (1 : Int))) true < stepH rate (0 : Int) (0 : Int) cash need true) = false) → (((decide (stepH rate (0 : Int) (0 : Int) (IntKind.i64.wrap (cash + (1 : Int))) need true < stepH rate (0 : Int) (0 : Int) cash need true) = true) → ((true = false) ∧ (True))) ∧ ((decide (stepH rate (0 : Int) (0 : Int) (IntKind.i64.wrap (cash + (1 : Int))) need true < stepH rate (0 : Int) (0 : Int) cash need true) = false) → (((decide (stepH rate (0 : Int) (0 : Int) (IntKind.i64.wrap (cash + (1 : Int))) (IntKind.i64.wrap (need + (1 : Int))) true < stepH rate (0 : Int) (0 : Int) cash (IntKind.i64.wrap (need + (1 : Int))) true) = true) → ((true = false) ∧ (True))) ∧ ((decide (stepH rate (0 : Int) (0 : Int) (IntKind.i64.wrap (cash + (1 : Int))) (IntKind.i64.wrap (need + (1 : Int))) true < stepH rate (0 : Int) (0 : Int) cash (IntKind.i64.wrap (need + (1 : Int))) true) = false) → (((decide (stepH rate (0 : Int) (0 : Int) (IntKind.i64.wrap (cash + (1 : Int))) (IntKind.i64.wrap (need + (1 : Int))) true < stepH rate (0 : Int) (0 : Int) (IntKind.i64.wrap (cash + (1 : Int))) need true) = true) → ((true = false) ∧ (True))) ∧ ((decide (stepH rate (0 : Int) (0 : Int) (IntKind.i64.wrap (cash + (1 : Int))) (IntKind.i64.wrap (need + (1 : Int))) true < stepH rate (0 : Int) (0 : Int) (IntKind.i64.wrap (cash + (1 : Int))) need true) = false) → (((decide ((1 : Int) < IntKind.i64.wrap (stepH rate (0 : Int) (0 : Int) (IntKind.i64.wrap (cash + (1 : Int))) (IntKind.i64.wrap (need + (1 : Int))) true - stepH rate (0 : Int) (0 : Int) cash need true)) = true) → ((true = false) ∧ (True))) ∧ ((decide ((1 : Int) < IntKind.i64.wrap (stepH rate (0 : Int) (0 : Int) (IntKind.i64.wrap (cash + (1 : Int))) (IntKind.i64.wrap (need + (1 : Int))) true - stepH rate (0 : Int) (0 : Int) cash need true)) = false) → (((decide (need < stepH rate (0 : Int) (0 : Int) cash need true) = true) → ((true = false) ∧ (True))) ∧ ((decide (need < stepH rate (0 : Int) (0 : Int) cash need true) = false) → ((true = true) ∧ (True)))))))))))))))))))) ∧ ((decide (need < stepH rate (0 : Int) (0 : Int) cash need false) = false) → (((decide (stepH rate (0 : Int) (0 : Int) cash need false < (0 : Int)) = true) → ((true = false) ∧ (True))) ∧ ((decide (stepH rate (0 : Int) (0 : Int) cash need false < (0 : Int)) = false) → (Ob ((((0 : Int) ≤ (1 : Int)) ∧ ((1 : Int) < (2 : Int)))) ∧ ((((!decide (IntKind.i64.wrap (IntKind.i64.wrap (IntKind.i64.wrap (stepE rate (0 : Int) (0 : Int) cash need true + stepE rate (0 : Int) (0 : Int) cash (IntKind.i64.wrap (need + (1 : Int))) true) + stepE rate (0 : Int) (0 : Int) (IntKind.i64.wrap (cash + (1 : Int))) need true) + stepE rate (0 : Int) (0 : Int) (IntKind.i64.wrap (cash + (1 : Int))) (IntKind.i64.wrap (need + (1 : Int))) true) = (0 : Int))) = true) → ((true = false) ∧ (True))) ∧ (((!decide (IntKind.i64.wrap (IntKind.i64.wrap (IntKind.i64.wrap (stepE rate (0 : Int) (0 : Int) cash need true + stepE rate (0 : Int) (0 : Int) cash (IntKind.i64.wrap (need + (1 : Int))) true) + stepE rate (0 : Int) (0 : Int) (IntKind.i64.wrap (cash + (1 : Int))) need true) + stepE rate (0 : Int) (0 : Int) (IntKind.i64.wrap (cash + (1 : Int))) (IntKind.i64.wrap (need + (1 : Int))) true) = (0 : Int))) = false) → (((decide (stepH rate (0 : Int) (0 : Int) cash (IntKind.i64.wrap (need + (1 : Int))) true < stepH rate (0 : Int) (0 : Int) cash need true) = true) → ((true = false) ∧ (True))) ∧ ((decide (stepH rate (0 : Int) (0 : Int) cash (IntKind.i64.wrap (need + (1 : Int))) true < stepH rate (0 : Int) (0 : Int) cash need true) = false) → (((decide (stepH rate (0 : Int) (0 : Int) (IntKind.i64.wrap (cash + (1 : Int))) need true < stepH rate (0 : Int) (0 : Int) cash need true) = true) → ((true = false) ∧ (True))) ∧ ((decide (stepH rate (0 : Int) (0 : Int) (IntKind.i64.wrap (cash + (1 : Int))) need true < stepH rate (0 : Int) (0 : Int) cash need true) = false) → (((decide (stepH rate (0 : Int) (0 : Int) (IntKind.i64.wrap (cash + (1 : Int))) (IntKind.i64.wrap (need + (1 : Int))) true < stepH rate (0 : Int) (0 : Int) cash (IntKind.i64.wrap (need + (1 : Int))) true) = true) → ((true = false) ∧ (True))) ∧ ((decide (stepH rate (0 : Int) (0 : Int) (IntKind.i64.wrap (cash + (1 : Int))) (IntKind.i64.wrap (need + (1 : Int))) true < stepH rate (0 : Int) (0 : Int) cash (IntKind.i64.wrap (need + (1 : Int))) true) = false) → (((decide (stepH rate (0 : Int) (0 : Int) (IntKind.i64.wrap (cash + (1 : Int))) (IntKind.i64.wrap (need + (1 : Int))) true < stepH rate (0 : Int) (0 : Int) (IntKind.i64.wrap (cash + (1 : Int))) need true) = true) → ((true = false) ∧ (True))) ∧ ((decide (stepH rate (0 : Int) (0 : Int) (IntKind.i64.wrap (cash + (1 : Int))) (IntKind.i64.wrap (need + (1 : Int))) true < stepH rate (0 : Int) (0 : Int) (IntKind.i64.wrap (cash + (1 : Int))) need true) = false) → (((decide ((1 : Int) < IntKind.i64.wrap (stepH rate (0 : Int) (0 : Int) (IntKind.i64.wrap (cash + (1 : Int))) (IntKind.i64.wrap (need + (1 : Int))) true - stepH rate (0 : Int) (0 : Int) cash need true)) = true) → ((true = false) ∧ (True))) ∧ ((decide ((1 : Int) < IntKind.i64.wrap (stepH rate (0 : Int) (0 : Int) (IntKind.i64.wrap (cash + (1 : Int))) (IntKind.i64.wrap (need + (1 : Int))) true - stepH rate (0 : Int) (0 : Int) cash need true)) = false) → (((decide (need < stepH rate (0 : Int) (0 : Int) cash need true) = true) → ((true = false) ∧ (True))) ∧ ((decide (need < stepH rate (0 : Int) (0 : Int) cash need true) = false) → ((true = true) ∧ (True))))))))))))))))))))))))))))))))))))))))))))))))) := by kernel_rfl
/-- The first step of a year, of amounts that are not too great. -/
theorem step_first {r c d : Int} (b : Bool) (hr : 0 ≤ r ∧ r ≤ 10000) (hc : -50000000001 ≤ c ∧ c ≤ 50000000001) (hd : -50000000001 ≤ d ∧ d ≤ 50000000001) : stepE r 0 0 c d b = 0 ∧ stepH r 0 0 c d b = partH d (limV r c) b := by
  have e := lim_all r c
  have hl : limE r c = 0 ∧ 0 ≤ limV r c ∧ limV r c ≤ 50000000001 := by
    rcases e with h | h | h | ⟨q1, q2, q3, q4, q5, q6, q7, q8, q9⟩
    · omega
    · omega
    · omega
    · exact ⟨q5, by omega, by omega⟩
  have hp : -50000000001 ≤ partH d (limV r c) b ∧ partH d (limV r c) b ≤ 50000000001 ∧ -100000000002 ≤ d - partH d (limV r c) b ∧ (d - partH d (limV r c) b ≤ 50000000001 + 50000000001) ∧ (d - partH d (limV r c) b ≤ 50000000001 ∧ -50000000001 ≤ d - partH d (limV r c) b) := by
    unfold partH minV maxV
    repeat' split
    all_goals omega
  have z : rightB 0 = true := by decide
  have h0 : stepR 0 0 c d = true := by
    simp only [stepR, Bool.and_eq_true]
    exact ⟨z, z, rightB_iff.2 (by omega), rightB_iff.2 (by omega)⟩
  have hh : heldS r 0 0 c d b = partH d (limV r c) b := by unfold heldS; rw [Int.sub_zero]
  have hE : stepE r 0 0 c d b = 0 := by
    unfold stepE
    rw [if_pos h0, if_pos hl.1, hh, Int.sub_zero, Int.zero_add, if_pos (rightB_iff.2 (by omega)), if_pos (rightB_iff.2 (by omega)), if_pos (rightB_iff.2 (by omega))]
  exact ⟨hE, by simp only [stepH, hE, if_true, hh]⟩
theorem lim_next {r c : Int} (hr : 0 ≤ r ∧ r ≤ 10000) (hc : -50000000001 ≤ c ∧ c ≤ 50000000001) : limV r c ≤ limV r (c + 1) ∧ limV r (c + 1) ≤ limV r c + 1 ∧ 0 ≤ limV r c ∧ limV r c ≤ 60000000000 := by
  have e := lim_all r c
  have e' := lim_all r (c + 1)
  rw [Int.add_mul, Int.one_mul] at e'
  have h0 : c = 0 → c * r = 0 := fun h => by rw [h, Int.zero_mul]
  rcases e with h | h | h | ⟨q1, q2, q3, q4, q5, q6, q7, q8, q9⟩
  · omega
  · omega
  · rcases e' with h' | h' | h' | ⟨q1', q2', q3', q4', q5', q6', q7', q8', q9'⟩
    · omega
    · omega
    · omega
    · have := h0 (by omega); omega
  · rcases e' with h' | h' | h' | ⟨q1', q2', q3', q4', q5', q6', q7', q8', q9'⟩
    · omega
    · omega
    · omega
    · omega

theorem rFin_ok {r c d w s : Int} : ∀ (f i n : Nat), rFin r c d w s f i = (0, n) → i ≤ n ∧ n ≤ i + f ∧ (∀ j, i ≤ j → j < n → 0 < (rs r c d w s j).2 ∧ rE r c d w s j = 0) ∧ (n = i + f ∨ (rs r c d w s n).2 ≤ 0 ∨ (i < n ∧ rH r c d w s (n - 1) = 0))
  | 0, i, n, h => by
    simp only [rFin, Prod.mk.injEq, true_and] at h
    exact ⟨by omega, by omega, fun j h1 h2 => by omega, by omega⟩
  | f + 1, i, n, h => by
    simp only [rFin] at h
    split at h
    · rename_i h0
      split at h
      · rename_i h1
        split at h
        · rename_i h2
          simp only [Prod.mk.injEq, true_and] at h
          refine ⟨by omega, by omega, fun j h3 h4 => ?_, .inr (.inr ⟨by omega, ?_⟩)⟩
          · rw [show j = i by omega]; exact ⟨h0, h1⟩
          · rw [← h]; exact h2
        · obtain ⟨q1, q2, q3, q4⟩ := rFin_ok f (i + 1) n h
          refine ⟨by omega, by omega, fun j h3 h4 => ?_, ?_⟩
          · by_cases hj : j = i
            · rw [hj]; exact ⟨h0, h1⟩
            · exact q3 j (by omega) h4
          · rcases q4 with q4 | q4 | ⟨q4, q5⟩
            · exact .inl (by omega)
            · exact .inr (.inl q4)
            · exact .inr (.inr ⟨by omega, q5⟩)
      · rename_i h1
        simp only [Prod.mk.injEq] at h
        exact absurd h.1 h1
    · rename_i h0
      simp only [Prod.mk.injEq, true_and] at h
      subst h
      exact ⟨by omega, by omega, fun j h1 h2 => by omega, .inr (.inl (by omega))⟩
theorem rFin_no {r c d w s : Int} : ∀ (f i : Nat), (rFin r c d w s f i).1 ≠ 0 → ∃ j, (rFin r c d w s f i).1 = rE r c d w s j
  | 0, i, h => by simp [rFin] at h
  | f + 1, i, h => by
    simp only [rFin] at h ⊢
    split at h
    · rename_i h0
      rw [if_pos h0]
      split at h
      · rename_i h1
        rw [if_pos h1]
        split at h
        · simp at h
        · rename_i h2
          rw [if_neg h2]
          exact rFin_no f (i + 1) h
      · rename_i h1
        rw [if_neg h1]
        exact ⟨i, rfl⟩
    · simp at h
theorem rOut_next (r c d w s : Int) (n : Nat) : rOut r c d w s (n + 1) = rOut r c d w s n ++ [.int .i64 (rH r c d w s n)] := by
  unfold rOut; rw [List.range_succ, List.map_append]; rfl
theorem rOut_length (r c d w s : Int) (n : Nat) : (rOut r c d w s n).length = n := by simp [rOut]

theorem p_no {r c w s m : Int} (h : pOk w s m ≠ 0) : pE r c w s m = pOk w s m ∧ rOut r c (w + s) w s (pN r c w s m) = [] ∧ pLeft r c w s m = 0 := by
  have h1 : pE r c w s m = pOk w s m := by simp only [pE, if_neg h]
  have h2 : pN r c w s m = 0 := by simp only [pN, h1, if_neg h]
  exact ⟨h1, by rw [h2]; rfl, by simp only [pLeft, h1, if_neg h]⟩

theorem recoup_known : Known Try.prog 14 recoupC := by
  refine known1 (nt := 75) (An := fun (r, w, s, c, m) => (rec_an r c w s m)) (labs := []) (lit := false) (em := em_recoup) sh_recoup_le (by kernel_rfl) mixedT tyT_ok (.cons right_known (.cons due_known (.cons step_known .nil))) Try.func14 (by kernel_rfl) (fun a => by obtain ⟨r, w, s, c, m⟩ := a; kernel_rfl) (fun a => by obtain ⟨r, w, s, c, m⟩ := a; rfl) (fun a ha => ?_)
  obtain ⟨r, w, s, c, m⟩ := a
  replace ha : in64 m ∧ in64 w ∧ in64 s := ha.out
  refine Eq.mpr (vc_recoup r w s c m) ?_
  obtain ⟨hm, hw, hs⟩ := ha
  have e1 : ∀ x : Int, rightL [.int .i64 x] = rightB x := by intros; simp [rightL, ints, elCell, SV.cells, SV.toInt]
  have e2 : ∀ x y : Int, rightL [.int .i64 x, .int .i64 y] = (rightB x && rightB y) := by intros; simp [rightL, ints, elCell, SV.cells, SV.toInt]
  have c1 : ∀ i, stepE r (rs r c (w + s) w s i).fst (rs r c (w + s) w s i).snd c (w + s) true = rE r c (w + s) w s i := fun _ => rfl
  have c2 : ∀ i, stepH r (rs r c (w + s) w s i).fst (rs r c (w + s) w s i).snd c (w + s) true = rH r c (w + s) w s i := fun _ => rfl
  have c3 : ∀ i, stepW r (rs r c (w + s) w s i).fst (rs r c (w + s) w s i).snd c (w + s) true = (rs r c (w + s) w s (i + 1)).1 := fun _ => rfl
  have c4 : ∀ i, stepS r (rs r c (w + s) w s i).fst (rs r c (w + s) w s i).snd c (w + s) true = (rs r c (w + s) w s (i + 1)).2 := fun _ => rfl
  simp only [e1, e2, c1, c2, c3, c4, rOut_length]
  simp only [eq_self, true_and, and_true, and_self, Bool.not_true, Bool.not_false, Bool.false_eq_true, Bool.true_eq_false, false_implies, true_implies, implies_true, imp_false, not_true, not_false_eq_true, decide_eq_true_eq, decide_eq_false_iff_not, Bool.not_eq_true', Bool.not_eq_false', Bool.and_eq_true, Classical.not_not, decide_true, decide_false, Bool.and_true, Bool.true_and, if_true, if_false, Ob_iff]
  refine ⟨fun h1 => ?_, fun h1 => ⟨fun h2 => ?_, fun h2 => ⟨by omega, fun h3 => ?_, fun h3 => ⟨by omega, fun h4 => ?_, fun h4 => ?_⟩⟩⟩⟩
  · have hp : pOk w s m = 2 := by unfold pOk; rw [if_pos (by omega)]
    obtain ⟨q1, q2, q3⟩ := p_no (r := r) (c := c) (w := w) (s := s) (m := m) (by omega)
    exact ⟨q2, q3.symm, by omega⟩
  · have hp : pOk w s m = 2 := by unfold pOk; rw [if_pos (by omega)]
    obtain ⟨q1, q2, q3⟩ := p_no (r := r) (c := c) (w := w) (s := s) (m := m) (by omega)
    exact ⟨q2, q3.symm, by omega⟩
  · have hp : pOk w s m = 10 := by
      unfold pOk; rw [if_neg (by omega), if_neg]
      intro hc
      rw [hc.1, hc.2.1] at h3
      cases h3
    obtain ⟨q1, q2, q3⟩ := p_no (r := r) (c := c) (w := w) (s := s) (m := m) (by omega)
    exact ⟨q2, q3.symm, by omega⟩
  · have r1 := rightB_iff.1 h3.1
    have r2 := rightB_iff.1 h3.2
    rw [wrapI (by omega)] at h4
    have hp : pOk w s m = 10 := by
      unfold pOk; rw [if_neg (by omega), if_neg]
      intro hc
      rw [hc.2.2] at h4
      cases h4
    obtain ⟨q1, q2, q3⟩ := p_no (r := r) (c := c) (w := w) (s := s) (m := m) (by omega)
    exact ⟨q2, q3.symm, by omega⟩
  · have r1 := rightB_iff.1 h3.1
    have r2 := rightB_iff.1 h3.2
    rw [wrapI (by omega)] at h4 ⊢
    have hp : pOk w s m = 0 := by unfold pOk; rw [if_neg (by omega), if_pos ⟨h3.1, h3.2, h4⟩]
    have hE : pE r c w s m = (pFin r c w s m).1 := by unfold pE; rw [if_pos hp]
    refine ⟨⟨0, rfl, rfl, rfl, rfl, by omega, by omega, rfl, hp⟩, fun i ⟨i1, i2, i3, i4⟩ => ?_⟩
    have fin : ∀ n : Nat, pFin r c w s m = (0, n) → rOut r c (w + s) w s n = rOut r c (w + s) w s (pN r c w s m) ∧ (rs r c (w + s) w s n).snd = pLeft r c w s m ∧ 0 = pE r c w s m := fun n hn => by
      have h0 : pE r c w s m = 0 := by rw [hE, hn]
      have hN : pN r c w s m = n := by unfold pN; rw [if_pos h0, hn]
      exact ⟨by rw [hN], by unfold pLeft; rw [if_pos h0, hN], h0.symm⟩
    refine ⟨fun h5 => ⟨fun h6 => ?_, fun h6 => ?_⟩, fun h5 => ?_⟩
    · obtain ⟨k, hk⟩ : ∃ k, m.toNat - i = k + 1 := ⟨m.toNat - i - 1, by omega⟩
      rw [hk] at i3
      simp only [rFin] at i3
      rw [if_pos h6] at i3
      refine ⟨fun h7 => ?_, fun h7 => ⟨by omega, fun h8 => ?_, fun h8 => ?_⟩⟩
      · rw [if_neg h7] at i3
        have h8 : pE r c w s m = rE r c (w + s) w s i := by rw [hE, ← i3]
        have hN : pN r c w s m = 0 := by unfold pN; rw [if_neg (by omega)]
        exact ⟨by rw [hN]; rfl, by unfold pLeft; rw [if_neg (by omega)], h8.symm⟩
      · rw [if_pos h7, if_pos h8] at i3
        rw [← rOut_next]
        exact fin (i + 1) i3.symm
      · rw [if_pos h7, if_neg h8] at i3
        refine ⟨i + 1, rfl, rfl, by rw [← rOut_next], ⟨by omega, i2, ?_, i4⟩, by omega⟩
        rw [show m.toNat - (i + 1) = k by omega]; exact i3
    · obtain ⟨k, hk⟩ : ∃ k, m.toNat - i = k + 1 := ⟨m.toNat - i - 1, by omega⟩
      rw [hk] at i3
      simp only [rFin] at i3
      rw [if_neg h6] at i3
      exact fin i i3.symm
    · rw [show m.toNat - i = 0 by omega] at i3
      exact fin i i3.symm

theorem rH_get {r c d w s : Int} {n i : Nat} (h : i < n) : (elCell (rOut r c d w s n) i 0).toInt = rH r c d w s i := by
  unfold elCell rOut
  rw [getD_map (fun i => SV.int .i64 (rH r c d w s i)) (List.range n) i 0 .any (by simpa using h)]
  simp [List.getD_eq_getElem?_getD, h, SV.cells, SV.toInt]
theorem plan_sum {r c w s : Int} : ∀ j, (∀ k, k < j → rE r c (w + s) w s k = 0) → (rs r c (w + s) w s j).1 + (rs r c (w + s) w s j).2 = w + s
  | 0, _ => rfl
  | j + 1, h => (step_ok (h j (by omega))).2.1
theorem plan_step {r c w s : Int} {n j : Nat} (h : ∀ k, k < n → rE r c (w + s) w s k = 0) (hj : j < n) : rH r c (w + s) w s j = minV ((rs r c (w + s) w s j).2) (limV r c) ∧ (rs r c (w + s) w s (j + 1)).2 = (rs r c (w + s) w s j).2 - rH r c (w + s) w s j := by
  have h1 := plan_sum (r := r) (c := c) (w := w) (s := s) j (fun k hk => h k (by omega))
  have h2 := plan_sum (r := r) (c := c) (w := w) (s := s) (j + 1) (fun k hk => h k (by omega))
  obtain ⟨s1, s2, s3, s4, s5, s6, s7⟩ := step_ok (h j hj)
  have s1 : (rs r c (w + s) w s (j + 1)).1 = (rs r c (w + s) w s j).1 + rH r c (w + s) w s j := s1
  have s6 : rH r c (w + s) w s j = partH (w + s - (rs r c (w + s) w s j).1) (limV r c) true := s6
  refine ⟨?_, by omega⟩
  rw [s6, show w + s - (rs r c (w + s) w s j).1 = (rs r c (w + s) w s j).2 by omega]
  rfl
theorem stepE_ten {r w s c d : Int} {b : Bool} (h : limE r c = 0) : stepE r w s c d b = 0 ∨ stepE r w s c d b = 10 := by
  unfold stepE
  repeat' split
  all_goals first | exact .inl rfl | exact .inr rfl | contradiction

theorem hrecoups_known : Known Try.prog 7 hrecoupsC := by
  refine known1 (nt := 187) (An := fun (rate, w, s, c, m) => (hrec_an rate c w s m)) (labs := []) (lit := true) (em := em_hrecoups) sh_hrecoups_le (by kernel_rfl) mixedT tyT_ok (.cons holds_known (.cons lawright_known (.cons recoup_known (.cons limit_known .nil)))) Try.func7 (by kernel_rfl) (fun a => by obtain ⟨rate, w, s, c, m⟩ := a; kernel_rfl) (fun a => by obtain ⟨rate, w, s, c, m⟩ := a; rfl) (fun a ha => ?_)
  obtain ⟨rate, w, s, c, m⟩ := a
  replace ha : in64 rate ∧ in64 w ∧ in64 s ∧ in64 c ∧ in64 m := ha.out
  refine Eq.mpr (vc_hrecoups rate w s c m) ?_
  obtain ⟨hr, hw, hs, hc, hm⟩ := ha
  have e1 : ∀ x : Int, rightL [.int .i64 x] = rightB x := by intros; simp [rightL, ints, elCell, SV.cells, SV.toInt]
  have e3 : ∀ x y z : Int, rightL [.int .i64 x, .int .i64 y, .int .i64 z] = (rightB x && (rightB y && rightB z)) := by intros; simp [rightL, ints, elCell, SV.cells, SV.toInt]
  simp only [e1, e3, rOut_length]
  simp only [eq_self, true_and, and_true, and_self, Bool.not_true, Bool.not_false, Bool.false_eq_true, Bool.true_eq_false, false_implies, true_implies, implies_true, imp_false, not_true, not_false_eq_true, decide_eq_true_eq, decide_eq_false_iff_not, Bool.not_eq_true', Bool.not_eq_false', Bool.and_eq_true, Classical.not_not, decide_true, decide_false, Bool.and_true, Bool.true_and, if_true, if_false, Ob_iff]
  refine ⟨by omega, by omega, fun m1 m2 => ⟨by omega, fun ⟨q1, q2, q3⟩ r1 r2 => ⟨⟨hm, hw, hs⟩, ?_⟩⟩⟩
  have w1 := rightB_iff.1 q1
  have w2 := rightB_iff.1 q2
  have w3 := rightB_iff.1 q3
  rw [wrapI (n := w + s) (by omega)]
  have hlim : limE rate c = 0 ∧ 0 ≤ limV rate c ∧ limV rate c ≤ 100000000000 := by
    rcases lim_all rate c with h | h | h | ⟨h1, h2, h3, h4, h5, h6, h7, h8, h9⟩
    · omega
    · omega
    · omega
    · exact ⟨h5, by omega, by omega⟩
  have pz : pE rate c w s m ≠ 0 → pN rate c w s m = 0 ∧ pLeft rate c w s m = 0 := fun h => ⟨by unfold pN; rw [if_neg h], by unfold pLeft; rw [if_neg h]⟩
  have p2 : (m < 0 ∨ 600 < m) → pE rate c w s m = 2 := fun h => by
    have : pOk w s m = 2 := by unfold pOk; rw [if_pos h]
    unfold pE; rw [if_neg (by omega), this]
  refine ⟨fun h1 => ?_, fun h1 => ⟨fun h2 => ?_, fun h2 => ⟨by omega, fun h3 => ?_, fun h3 => ⟨fun h4 => ?_, fun h4 => ?_⟩⟩⟩⟩
  · have h5 := p2 (.inl h1)
    obtain ⟨z1, z2⟩ := pz (by omega)
    rw [z1, z2, h5]; simp
  · have h5 := p2 (.inr h2)
    obtain ⟨z1, z2⟩ := pz (by omega)
    rw [z1, z2, h5]; simp
  · have h5 : pE rate c w s m = 10 := by
      have : pOk w s m = 10 := by
        unfold pOk
        rw [if_neg (by omega), if_neg (by rw [h3]; simp)]
      unfold pE; rw [if_neg (by omega), this]
    obtain ⟨z1, z2⟩ := pz (by omega)
    rw [z1, h5]; simp
  · obtain ⟨z1, z2⟩ := pz h4
    have hp : pOk w s m = 0 := by unfold pOk; rw [if_neg (by omega), if_pos ⟨q1, q2, h3⟩]
    have h5 : pE rate c w s m = (pFin rate c w s m).1 := by unfold pE; rw [if_pos hp]
    have h6 : pE rate c w s m = 10 := by
      rw [h5] at h4 ⊢
      obtain ⟨j, hj⟩ := rFin_no _ _ h4
      have hj : (pFin rate c w s m).1 = rE rate c (w + s) w s j := hj
      rw [hj] at h4 ⊢
      rcases stepE_ten (r := rate) (w := (rs rate c (w + s) w s j).1) (s := (rs rate c (w + s) w s j).2) (c := c) (d := w + s) (b := true) hlim.1 with h | h
      · exact absurd h h4
      · exact h
    rw [z1, h6]; simp
  · have hp : pOk w s m = 0 := by unfold pOk; rw [if_neg (by omega), if_pos ⟨q1, q2, h3⟩]
    have h5 : (pFin rate c w s m).1 = 0 := by rw [← h4]; unfold pE; rw [if_pos hp]
    have hN : pN rate c w s m = (pFin rate c w s m).2 := by unfold pN; rw [if_pos h4]
    have hL : pLeft rate c w s m = (rs rate c (w + s) w s (pN rate c w s m)).2 := by unfold pLeft; rw [if_pos h4]
    have hfin : rFin rate c (w + s) w s m.toNat 0 = (0, pN rate c w s m) := by
      rw [hN, ← h5]; rfl
    obtain ⟨f1, f2, f3, f4⟩ := rFin_ok _ _ _ hfin
    have each : ∀ j, j < pN rate c w s m → rE rate c (w + s) w s j = 0 := fun j hj => (f3 j (by omega) hj).2
    have pos : ∀ j, j < pN rate c w s m → 0 < (rs rate c (w + s) w s j).2 := fun j hj => (f3 j (by omega) hj).1
    have st := fun j (hj : j < pN rate c w s m) => plan_step (r := rate) (c := c) (w := w) (s := s) each hj
    have low : ∀ j, j ≤ pN rate c w s m → 0 < s → 0 ≤ (rs rate c (w + s) w s j).2 ∧ (rs rate c (w + s) w s j).2 ≤ s := by
      intro j hj h0
      induction j with
      | zero => exact ⟨by show 0 ≤ s; omega, by show s ≤ s; omega⟩
      | succ j ih =>
        have h7 := ih (by omega)
        obtain ⟨h8, h9⟩ := st j (by omega)
        have h10 := pos j (by omega)
        have : 0 ≤ rH rate c (w + s) w s j ∧ rH rate c (w + s) w s j ≤ (rs rate c (w + s) w s j).2 := by
          rw [h8]; unfold minV; split <;> omega
        omega
    refine ⟨fun h7 => ?_, fun h7 => ?_⟩
    · have h8 : pN rate c w s m = 0 := by
        rcases Nat.eq_zero_or_pos (pN rate c w s m) with h | h
        · exact h
        · have : 0 < s := pos 0 h
          omega
      rw [hL, h8]
      exact ⟨fun _ => rfl, rfl⟩
    · have h0 : 0 < s := by omega
      refine ⟨⟨0, by show 0 = s - s; omega, rfl, by omega⟩, fun i hi => ⟨fun h8 => ?_, fun h8 => ?_⟩⟩
      · have hi' : i < pN rate c w s m := by omega
        obtain ⟨t1, t2⟩ := st i hi'
        have t3 := pos i hi'
        have t4 := low i (by omega) h0
        have t5 := low (i + 1) (by omega) h0
        have t6 : rH rate c (w + s) w s i ≤ limV rate c ∧ 0 ≤ rH rate c (w + s) w s i ∧ (rH rate c (w + s) w s i < (rs rate c (w + s) w s i).2 → rH rate c (w + s) w s i = limV rate c) := by
          rw [t1]; unfold minV; split <;> omega
        rw [rH_get hi']
        rw [wrapI (n := (i : Int) + 1) (by omega), wrapI (n := s - (rs rate c (w + s) w s i).2 + rH rate c (w + s) w s i) (by omega)]
        have nx : ∃ x3 : Nat, s - (rs rate c (w + s) w s i).2 + rH rate c (w + s) w s i = s - (rs rate c (w + s) w s x3).2 ∧ (i : Int) + 1 = (x3 : Int) ∧ x3 ≤ pN rate c w s m ∧ pN rate c w s m - x3 < pN rate c w s m - i :=
          ⟨i + 1, by omega, rfl, by omega, by omega⟩
        refine ⟨⟨by omega, by omega⟩, by omega, fun _ => ⟨by omega, fun _ => ⟨fun h9 => ⟨?_, fun _ => nx⟩, fun _ => nx⟩⟩⟩
        have := pos (i + 1) (by omega)
        omega
      · have hi' : i = pN rate c w s m := by omega
        subst hi'
        rw [← hL]
        have t4 := low (pN rate c w s m) (by omega) h0
        rw [← hL] at t4
        rw [wrapI (by omega)]
        refine ⟨by omega, fun _ => ⟨by omega, fun _ => ⟨by omega, fun _ h9 h10 => ?_⟩⟩⟩
        rcases f4 with f4 | f4 | ⟨f4, f5⟩
        · omega
        · omega
        · obtain ⟨t1, t2⟩ := st (pN rate c w s m - 1) (by omega)
          have t3 := pos (pN rate c w s m - 1) (by omega)
          rw [f5] at t1
          unfold minV at t1
          split at t1 <;> omega

theorem hrises_known : Known Try.prog 6 hrisesC := by
  refine known1 (nt := 147) (An := fun (rate, need, cash) => (unrAn [(3000, (3, [1, 2, 7, 48, 49], [7]))])) (labs := []) (lit := true) (em := em_hrises) sh_hrises_le (by kernel_rfl) mixedT tyT_ok (.cons holds_known (.cons step_known .nil)) Try.func6 (by kernel_rfl) (fun a => by obtain ⟨rate, need, cash⟩ := a; kernel_rfl) (fun a => by obtain ⟨rate, need, cash⟩ := a; rfl) (fun a ha => ?_)
  obtain ⟨rate, need, cash⟩ := a
  replace ha : in64 rate ∧ in64 need ∧ in64 cash := ha.out
  refine Eq.mpr (vc_hrises rate need cash) ?_
  obtain ⟨h1, h2, h3⟩ := ha
  by_cases hr : 0 ≤ rate ∧ rate ≤ 10000
  · by_cases hn : -50000000000 ≤ need ∧ need ≤ 50000000000
    · by_cases hc : -50000000000 ≤ cash ∧ cash ≤ 50000000000
      · simp only [wrapI (n := need + 1) (by omega), wrapI (n := cash + 1) (by omega)]
        simp only [(step_first (c := cash) (d := need) _ hr (by omega) (by omega)).1, (step_first (c := cash + 1) (d := need) _ hr (by omega) (by omega)).1, (step_first (c := cash) (d := need + 1) _ hr (by omega) (by omega)).1, (step_first (c := cash + 1) (d := need + 1) _ hr (by omega) (by omega)).1,
          (step_first (c := cash) (d := need) _ hr (by omega) (by omega)).2, (step_first (c := cash + 1) (d := need) _ hr (by omega) (by omega)).2, (step_first (c := cash) (d := need + 1) _ hr (by omega) (by omega)).2, (step_first (c := cash + 1) (d := need + 1) _ hr (by omega) (by omega)).2]
        obtain ⟨l1, l2, l3, l4⟩ := lim_next (c := cash) hr (by omega)
        have w0 : IntKind.i64.wrap 0 = 0 := by decide
        simp only [Int.add_zero, w0]
        generalize limV rate cash = L at *
        generalize limV rate (cash + 1) = M at *
        have hf : ∀ d l : Int, 0 ≤ l → partH d l false = (if d ≤ 0 then 0 else if d ≤ l then d else l) := fun d l hl => by
          unfold partH minV maxV; simp; (repeat' split) <;> omega
        have ht : ∀ d l : Int, partH d l true = (if d ≤ l then d else l) := fun d l => by
          unfold partH minV; simp; (repeat' split) <;> omega
        simp only [hf _ L (by omega), hf _ M (by omega), ht]
        simp only [eq_self, true_and, and_true, and_self, Bool.not_true, Bool.not_false, Bool.false_eq_true, Bool.true_eq_false, false_implies, true_implies, implies_true, imp_false, not_true, not_false_eq_true, decide_eq_true_eq, decide_eq_false_iff_not, Bool.not_eq_true', Bool.not_eq_false', Bool.and_eq_true, Classical.not_not, decide_true, decide_false, Bool.and_true, Bool.true_and, if_true, if_false, Ob_iff]
        have wd : ∀ x y : Int, -100000000000 ≤ x ∧ x ≤ 100000000000 → -100000000000 ≤ y ∧ y ≤ 100000000000 → IntKind.i64.wrap (x - y) = x - y := fun x y hx hy => wrapI (by omega)
        rw [wd _ _ (by (repeat' split) <;> omega) (by (repeat' split) <;> omega)]
        rw [wd _ _ (by (repeat' split) <;> omega) (by (repeat' split) <;> omega)]
        repeat' first | exact trivial | with_reducible rfl | apply And.intro | apply Ob.mk | intro _
        all_goals (first | omega | ((repeat' split) <;> omega) | ((repeat' split at *) <;> omega))
      · simp only [eq_self, true_and, and_true, and_self, Bool.not_true, Bool.not_false, Bool.false_eq_true, Bool.true_eq_false, false_implies, true_implies, implies_true, imp_false, not_true, not_false_eq_true, decide_eq_true_eq, decide_eq_false_iff_not, Bool.not_eq_true', Bool.not_eq_false', Bool.and_eq_true, Classical.not_not, decide_true, decide_false, Bool.and_true, Bool.true_and, if_true, if_false, Ob_iff]
        intros; exfalso; omega
    · simp only [eq_self, true_and, and_true, and_self, Bool.not_true, Bool.not_false, Bool.false_eq_true, Bool.true_eq_false, false_implies, true_implies, implies_true, imp_false, not_true, not_false_eq_true, decide_eq_true_eq, decide_eq_false_iff_not, Bool.not_eq_true', Bool.not_eq_false', Bool.and_eq_true, Classical.not_not, decide_true, decide_false, Bool.and_true, Bool.true_and, if_true, if_false, Ob_iff]
      intros; exfalso; omega
  · simp only [eq_self, true_and, and_true, and_self, Bool.not_true, Bool.not_false, Bool.false_eq_true, Bool.true_eq_false, false_implies, true_implies, implies_true, imp_false, not_true, not_false_eq_true, decide_eq_true_eq, decide_eq_false_iff_not, Bool.not_eq_true', Bool.not_eq_false', Bool.and_eq_true, Classical.not_not, decide_true, decide_false, Bool.and_true, Bool.true_and, if_true, if_false, Ob_iff]
    intros; exfalso; omega

end Go.Rx
