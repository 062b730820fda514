/- What is withheld: a year of steps, and the laws on steps, on the year, on the limit. -/
import Derived.Test.YtgfikjcofjagiaaHold
namespace Go.Rx
open Go.Proofs
set_option linter.unusedSimpArgs false
set_option linter.unusedVariables false

def payK : List CK := [.int .i64, .int .i64, .bool]
def payC (l : List SV) (i : Nat) : Int := (elCell l i 0).toInt
def payD (l : List SV) (i : Nat) : Int := (elCell l i 1).toInt
def payB (l : List SV) (i : Nat) : Bool := (elCell l i 2).toBool
/-- What stands behind so many steps; the first error on the way. -/
def ys (r : Int) (l : List SV) : Nat → Int × Int
  | 0 => (0, 0)
  | i + 1 => (stepW r (ys r l i).1 (ys r l i).2 (payC l i) (payD l i) (payB l i), stepS r (ys r l i).1 (ys r l i).2 (payC l i) (payD l i) (payB l i))
def yE (r : Int) (l : List SV) (i : Nat) : Int := stepE r (ys r l i).1 (ys r l i).2 (payC l i) (payD l i) (payB l i)
def yH (r : Int) (l : List SV) (i : Nat) : Int := stepH r (ys r l i).1 (ys r l i).2 (payC l i) (payD l i) (payB l i)
def yErr (r : Int) (l : List SV) : Nat → Int
  | 0 => 0
  | i + 1 => if yErr r l i = 0 then yE r l i else yErr r l i
def yOut (r : Int) (l : List SV) (n : Nat) : List SV := (List.range n).map fun i => .int .i64 (yH r l i)
def yrO (r : Int) (l : List SV) : List SV := if yErr r l l.length = 0 then yOut r l l.length else []
def yrW (r : Int) (l : List SV) : Int := if yErr r l l.length = 0 then (ys r l l.length).1 else 0
def yrS (r : Int) (l : List SV) : Int := if yErr r l l.length = 0 then (ys r l l.length).2 else 0

def year_an (r : Int) (l : List SV) : Nat → Option Ann
  | 0 => some ⟨Nat, fun i => ⟨[(2, .ptr 2 0), (5, .ptr 5 0), (7, .ptr 7 0), (8, .osl 40 0), (14, .sl payK l), (15, .int .i64 l.length), (16, .int .i64 i)],
      [(2, .box 31 [.any, .any, .any, .int .i64 r, .any]), (5, .box 23 [.int .i64 0, .int .i64 0]), (7, .box 23 [.int .i64 (ys r l i).1, .int .i64 (ys r l i).2]), (40, .row 0 2 [.int .i64] (yOut r l i))]⟩,
      fun i => i ≤ l.length ∧ yErr r l i = 0, fun i => l.length - i, [2, 5, 7, 8, 14, 15, 16], [2, 5, 7, 40], [(8, 40, 2, [.int .i64])]⟩
  | _ => none

def hyear_an (r : Int) (l : List SV) : Nat → Option Ann
  | 0 => some ⟨Nat, fun i => ⟨[(1, .sl payK l), (5, .ptr 5 0), (6, .sl [.int .i64] (yrO r l)), (7, .ptr 7 0), (8, .int .i64 (yErr r l l.length)), (9, .ptr 9 0), (10, .int .i64 (ys r l i).1), (30, .sl payK l), (31, .int .i64 l.length), (32, .int .i64 i)],
      [(5, .box 31 [.nilsl, .nilsl, .nilsl, .int .i64 r, .int .i64 0]), (7, .box 23 [.int .i64 (yrW r l), .int .i64 (yrS r l)]), (9, .box 23 [.int .i64 (ys r l i).1, .int .i64 (ys r l i).2])]⟩,
      fun i => i ≤ l.length ∧ l.length ≤ 60 ∧ yErr r l i = 0, fun i => l.length - i, [1, 5, 6, 7, 8, 9, 10, 30, 31, 32], [5, 7, 9], []⟩
  | _ => none
def sh_year : List SV → Option (Int × (List SV))
  | [.agg [_, _, _, .int .i64 r, _], l'] => (match slOf [.int .i64, .int .i64, .bool] l' with | some l => some (r, l) | none => none)
  | _ => none
def em_year : Int × (List SV) → List SV := fun (r, l) => [.agg [.any, .any, .any, .int .i64 r, .any], .sl [.int .i64, .int .i64, .bool] l]
theorem sh_year_le : ∀ us a, sh_year us = some a → leL us (em_year a) := by
  intro us a h
  unfold sh_year at h
  split at h
  · split at h
    · cases h; exact (.cons (.agg (.cons (.any _) (.cons (.any _) (.cons (.any _) (.cons (.refl _) (.cons (.any _) .nil)))))) (.cons (.sl (by assumption)) .nil))
    · cases h
  · cases h
def yearC : Con := conOf sh_year (fun (r, l) => some (Ob (l.length ≤ 1000000))) (fun (r, l) => .tup [.sl [.int .i64] (yrO r l), .agg [.int .i64 (yrW r l), .int .i64 (yrS r l)], .int .i64 (yErr r l l.length)])
set_option maxRecDepth 100000 in
theorem vc_year (r : Int) (l : List SV) : (wpF ⟨45, tyT, [(9, stepC)], false⟩ ((year_an r l)) [] Try.f12 (em_year (r, l)) (.tup [.sl [.int .i64] (yrO r l), .agg [.int .i64 (yrW r l), .int .i64 (yrS r l)], .int .i64 (yErr r l l.length)])) = (((∃ (x1 : Nat), ((l = l) ∧ (((↑l.length : Int) = (↑l.length : Int)) ∧ (((0 : Int) = (↑x1 : Int)) ∧ ((r = r) ∧ (((0 : Int) = (0 : Int)) ∧ (((0 : Int) = (0 : Int)) ∧ (((0 : Int) = (ys r l x1).fst) ∧ (((0 : Int) = (ys r l x1).snd) ∧ (([] = yOut r l x1) ∧ (((x1 ≤ l.length) ∧ (yErr r l x1 = (0 : Int))) ∧ ((True) ∧ (True))))))))))))) ∧ ∀ (x2 : Nat), (((x2 ≤ l.length) ∧ (yErr r l x2 = (0 : Int))) → (((decide ((↑x2 : Int) < (↑l.length : Int)) = true) → (Ob ((((0 : Int) ≤ (↑x2 : Int)) ∧ ((↑x2 : Int) < (↑l.length : Int)))) ∧ ((((!decide (stepE r (ys r l x2).fst (ys r l x2).snd (elCell l x2 (0 : Nat)).toInt (elCell l x2 (1 : Nat)).toInt (elCell l x2 (2 : Nat)).toBool = (0 : Int))) = true) → ((yrO r l = []) ∧ (((0 : Int) = yrW r l) ∧ (((0 : Int) = yrS r l) ∧ ((stepE r (ys r l x2).fst (ys r l x2).snd (elCell l x2 (0 : Nat)).toInt (elCell l x2 (1 : Nat)).toInt (elCell l x2 (2 : Nat)).toBool = yErr r l l.length) ∧ (True)))))) ∧ (((!decide (stepE r (ys r l x2).fst (ys r l x2).snd (elCell l x2 (0 : Nat)).toInt (elCell l x2 (1 : Nat)).toInt (elCell l x2 (2 : Nat)).toBool = (0 : Int))) = false) → (Ob (((((yOut r l x2).length + (1 : Nat)) * (8 : Nat) ≤ (1099511627776 : Nat)) ∧ ((yOut r l x2).length + (1 : Nat) ≤ (1099511627776 : Nat)))) ∧ (∃ (x3 : Nat), ((l = l) ∧ (((↑l.length : Int) = (↑l.length : Int)) ∧ ((IntKind.i64.wrap ((↑x2 : Int) + (1 : Int)) = (↑x3 : Int)) ∧ ((r = r) ∧ (((0 : Int) = (0 : Int)) ∧ (((0 : Int) = (0 : Int)) ∧ ((stepW r (ys r l x2).fst (ys r l x2).snd (elCell l x2 (0 : Nat)).toInt (elCell l x2 (1 : Nat)).toInt (elCell l x2 (2 : Nat)).toBool = (ys r l x3).fst) ∧ ((stepS r (ys r l x2).fst (ys r l x2).snd (elCell l x2 (0 : Nat)).toInt (elCell l x2 (1 : Nat)).toInt (elCell l x2 (2 : Nat)).toBool = (ys r l x3).snd) ∧ ((yOut r l x2 ++ [SV.int IntKind.i64 (stepH r (ys r l x2).fst (ys r l x2).snd (elCell l x2 (0 : Nat)).toInt (elCell l x2 (1 : Nat)).toInt (elCell l x2 (2 : Nat)).toBool)] = yOut r l x3) ∧ (((x3 ≤ l.length) ∧ (yErr r l x3 = (0 : Int))) ∧ ((l.length - x3 < l.length - x2) ∧ (True)))))))))))))))))) ∧ ((decide ((↑x2 : Int) < (↑l.length : Int)) = false) → ((yOut r l x2 = yrO r l) ∧ (((ys r l x2).fst = yrW r l) ∧ (((ys r l x2).snd = yrS r l) ∧ (((0 : Int) = yErr r l l.length) ∧ (True)))))))))) := by kernel_rfl
def sh_holds : List SV → Option (Unit)
  | [] => some ()
  | _ => none
def em_holds : Unit → List SV := fun _ => []
theorem sh_holds_le : ∀ us a, sh_holds us = some a → leL us (em_holds a) := by
  intro us a h
  unfold sh_holds at h
  split at h
  · cases h; exact .nil
  · cases h
def holdsC : Con := conOf sh_holds (fun _ => none) (fun _ => .bool true)
set_option maxRecDepth 100000 in
theorem vc_holds (_u : Unit) : (wpF ⟨75, tyT, [(15, halfC), (12, yearC), (13, limitC), (11, dueC), (16, hpartC)], false⟩ (noAnn) [] Try.f8 (em_holds ()) (.bool true)) = ((Ob (((4 : Nat) ≤ (1000000 : Nat))) ∧ (((decide ((0 : Int) = (0 : Int)) = true) → (((decide ((0 : Int) = (0 : Int)) = true) → (((decide ((0 : Int) = (0 : Int)) = true) → (((decide ((4 : Int) = (4 : Int)) = true) → (Ob ((((0 : Int) ≤ (0 : Int)) ∧ ((0 : Int) < (4 : Int)))) ∧ (((decide ((50 : Int) = (50 : Int)) = true) → (Ob ((((0 : Int) ≤ (1 : Int)) ∧ ((1 : Int) < (4 : Int)))) ∧ (((decide ((50 : Int) = (50 : Int)) = true) → (Ob ((((0 : Int) ≤ (2 : Int)) ∧ ((2 : Int) < (4 : Int)))) ∧ (((decide ((0 : Int) = (0 : Int)) = true) → (Ob ((((0 : Int) ≤ (3 : Int)) ∧ ((3 : Int) < (4 : Int)))) ∧ (((decide ((-40 : Int) = (-40 : Int)) = true) → ((((decide ((60 : Int) = (60 : Int)) && decide ((0 : Int) = (0 : Int))) = true) → (((decide ((60 : Int) = (60 : Int)) = true) → ((decide ((0 : Int) = (0 : Int)) = true) ∧ (True))) ∧ ((decide ((60 : Int) = (60 : Int)) = false) → ((true = false) ∧ (True))))) ∧ (((decide ((60 : Int) = (60 : Int)) && decide ((0 : Int) = (0 : Int))) = false) → ((true = false) ∧ (True))))) ∧ ((decide ((-40 : Int) = (-40 : Int)) = false) → ((true = false) ∧ (True)))))) ∧ ((decide ((0 : Int) = (0 : Int)) = false) → ((true = false) ∧ (True)))))) ∧ ((decide ((50 : Int) = (50 : Int)) = false) → ((true = false) ∧ (True)))))) ∧ ((decide ((50 : Int) = (50 : Int)) = false) → ((true = false) ∧ (True)))))) ∧ ((decide ((4 : Int) = (4 : Int)) = false) → ((true = false) ∧ (True))))) ∧ ((decide ((0 : Int) = (0 : Int)) = false) → ((true = false) ∧ (True))))) ∧ ((decide ((0 : Int) = (0 : Int)) = false) → ((true = false) ∧ (True))))) ∧ ((decide ((0 : Int) = (0 : Int)) = false) → ((true = false) ∧ (True)))))) := by kernel_rfl
def sh_hsteps : List SV → Option (Int × Int × Int × Int × Int × Bool)
  | [.int .i64 rate, .agg [.int .i64 w, .int .i64 s], .agg [.int .i64 c, .int .i64 d, back']] => (match bOf back' with | some back => some (rate, w, s, c, d, back) | none => none)
  | _ => none
def em_hsteps : Int × Int × Int × Int × Int × Bool → List SV := fun (rate, w, s, c, d, back) => [.int .i64 rate, .agg [.int .i64 w, .int .i64 s], .agg [.int .i64 c, .int .i64 d, .bool back]]
theorem sh_hsteps_le : ∀ us a, sh_hsteps us = some a → leL us (em_hsteps a) := by
  intro us a h
  unfold sh_hsteps at h
  split at h
  · split at h
    · cases h; exact (.cons (.refl _) (.cons (.agg (.cons (.refl _) (.cons (.refl _) .nil))) (.cons (.agg (.cons (.refl _) (.cons (.refl _) (.cons (.bool (by assumption)) .nil)))) .nil)))
    · cases h
  · cases h
def hstepsC : Con := conOf sh_hsteps (fun (rate, w, s, c, d, back) => some (Ob (in64 rate ∧ in64 w ∧ in64 s ∧ in64 c ∧ in64 d))) (fun (rate, w, s, c, d, back) => .bool true)
set_option maxRecDepth 100000 in
theorem vc_hsteps (rate : Int) (w : Int) (s : Int) (c : Int) (d : Int) (back : Bool) : (wpF ⟨141, tyT, [(8, holdsC), (9, stepC), (10, lawrightC), (11, dueC)], false⟩ (noAnn) [] Try.f3 (em_hsteps (rate, w, s, c, d, back)) (.bool true)) = (((((!true) = true) → ((true = false) ∧ (True))) ∧ (((!true) = false) → (Ob (((4 : Nat) ≤ (9000000000000000000 : Nat))) ∧ ((((!rightL [SV.int IntKind.i64 w, SV.int IntKind.i64 s, SV.int IntKind.i64 c, SV.int IntKind.i64 d]) = true) → (((decide (stepE rate w s c d back = (10 : Int)) = true) → (((decide (stepH rate w s c d back = (0 : Int)) = true) → (((decide (stepW rate w s c d back = w) && decide (stepS rate w s c d back = s)) = true) ∧ (True))) ∧ ((decide (stepH rate w s c d back = (0 : Int)) = false) → ((true = false) ∧ (True))))) ∧ ((decide (stepE rate w s c d back = (10 : Int)) = false) → ((true = false) ∧ (True))))) ∧ (((!rightL [SV.int IntKind.i64 w, SV.int IntKind.i64 s, SV.int IntKind.i64 c, SV.int IntKind.i64 d]) = false) → (((decide (rate < (0 : Int)) = true) → (((decide (stepE rate w s c d back = (50 : Int)) = true) → (((decide (stepH rate w s c d back = (0 : Int)) = true) → (((decide (stepW rate w s c d back = w) && decide (stepS rate w s c d back = s)) = true) ∧ (True))) ∧ ((decide (stepH rate w s c d back = (0 : Int)) = false) → ((true = false) ∧ (True))))) ∧ ((decide (stepE rate w s c d back = (50 : Int)) = false) → ((true = false) ∧ (True))))) ∧ ((decide (rate < (0 : Int)) = false) → (((decide ((10000 : Int) < rate) = true) → (((decide (stepE rate w s c d back = (50 : Int)) = true) → (((decide (stepH rate w s c d back = (0 : Int)) = true) → (((decide (stepW rate w s c d back = w) && decide (stepS rate w s c d back = s)) = true) ∧ (True))) ∧ ((decide (stepH rate w s c d back = (0 : Int)) = false) → ((true = false) ∧ (True))))) ∧ ((decide (stepE rate w s c d back = (50 : Int)) = false) → ((true = false) ∧ (True))))) ∧ ((decide ((10000 : Int) < rate) = false) → (Ob (((10000 : Int) ≠ (0 : Int))) ∧ (((decide (IntKind.i64.wrap ((IntKind.i64.wrap (maxV (0 : Int) c * rate)).tdiv (10000 : Int)) < IntKind.i64.wrap (d - w)) = true) → (((decide (IntKind.i64.wrap ((IntKind.i64.wrap (maxV (0 : Int) c * rate)).tdiv (10000 : Int)) < (0 : Int)) = true) → ((((!back) = true) → (Ob (((3 : Nat) ≤ (9000000000000000000 : Nat))) ∧ ((((!rightL [SV.int IntKind.i64 (IntKind.i64.wrap (d - w)), SV.int IntKind.i64 (IntKind.i64.wrap (w + (0 : Int))), SV.int IntKind.i64 (IntKind.i64.wrap (IntKind.i64.wrap (d - w) - (0 : Int)))]) = true) → (((decide (stepE rate w s c d back = (10 : Int)) = true) → (((decide (stepH rate w s c d back = (0 : Int)) = true) → (((decide (stepW rate w s c d back = w) && decide (stepS rate w s c d back = s)) = true) ∧ (True))) ∧ ((decide (stepH rate w s c d back = (0 : Int)) = false) → ((true = false) ∧ (True))))) ∧ ((decide (stepE rate w s c d back = (10 : Int)) = false) → ((true = false) ∧ (True))))) ∧ (((!rightL [SV.int IntKind.i64 (IntKind.i64.wrap (d - w)), SV.int IntKind.i64 (IntKind.i64.wrap (w + (0 : Int))), SV.int IntKind.i64 (IntKind.i64.wrap (IntKind.i64.wrap (d - w) - (0 : Int)))]) = false) → (((decide (stepE rate w s c d back = (0 : Int)) = true) → (((decide (stepH rate w s c d back = (0 : Int)) = true) → ((((decide (stepW rate w s c d back = IntKind.i64.wrap (w + (0 : Int))) && decide (stepS rate w s c d back = IntKind.i64.wrap (IntKind.i64.wrap (d - w) - (0 : Int)))) = true) → ((decide (IntKind.i64.wrap (stepW rate w s c d back + stepS rate w s c d back) = d) = true) ∧ (True))) ∧ (((decide (stepW rate w s c d back = IntKind.i64.wrap (w + (0 : Int))) && decide (stepS rate w s c d back = IntKind.i64.wrap (IntKind.i64.wrap (d - w) - (0 : Int)))) = false) → ((true = false) ∧ (True))))) ∧ ((decide (stepH rate w s c d back = (0 : Int)) = false) → ((true = false) ∧ (True))))) ∧ ((decide (stepE rate w s c d back = (0 : Int)) = false) → ((true = false) ∧ (True)))))))) ∧ (((!back) = false) → (Ob (((3 : Nat) ≤ (9000000000000000000 : Nat))) ∧ ((((!rightL [SV.int IntKind.i64 (IntKind.i64.wrap (d - w)), SV.int IntKind.i64 (IntKind.i64.wrap (w + IntKind.i64.wrap ((IntKind.i64.wrap (maxV (0 : Int) c * rate)).tdiv (10000 : Int)))), SV.int IntKind.i64 (IntKind.i64.wrap (IntKind.i64.wrap (d - w) - IntKind.i64.wrap ((IntKind.i64.wrap (maxV (0 : Int) c * rate)).tdiv (10000 : Int))))]) = true) → (((decide (stepE rate w s c d back = (10 : Int)) = true) → (((decide (stepH rate w s c d back = (0 : Int)) = true) → (((decide (stepW rate w s c d back = w) && decide (stepS rate w s c d back = s)) = true) ∧ (True))) ∧ ((decide (stepH rate w s c d back = (0 : Int)) = false) → ((true = false) ∧ (True))))) ∧ ((decide (stepE rate w s c d back = (10 : Int)) = false) → ((true = false) ∧ (True))))) ∧ (((!rightL [SV.int IntKind.i64 (IntKind.i64.wrap (d - w)), SV.int IntKind.i64 (IntKind.i64.wrap (w + IntKind.i64.wrap ((IntKind.i64.wrap (maxV (0 : Int) c * rate)).tdiv (10000 : Int)))), SV.int IntKind.i64 (IntKind.i64.wrap (IntKind.i64.wrap (d - w) - IntKind.i64.wrap ((IntKind.i64.wrap (maxV (0 : Int) c * rate)).tdiv (10000 : Int))))]) = false) → (((decide (stepE rate w s c d back = (0 : Int)) = true) → (((decide (stepH rate w s c d back = IntKind.i64.wrap ((IntKind.i64.wrap (maxV (0 : Int) c * rate)).tdiv (10000 : Int))) = true) → ((((decide (stepW rate w s c d back = IntKind.i64.wrap (w + IntKind.i64.wrap ((IntKind.i64.wrap (maxV (0 : Int) c * rate)).tdiv (10000 : Int)))) && decide (stepS rate w s c d back = IntKind.i64.wrap (IntKind.i64.wrap (d - w) - IntKind.i64.wrap ((IntKind.i64.wrap (maxV (0 : Int) c * rate)).tdiv (10000 : Int))))) = true) → ((decide (IntKind.i64.wrap (stepW rate w s c d back + stepS rate w s c d back) = d) = true) ∧ (True))) ∧ (((decide (stepW rate w s c d back = IntKind.i64.wrap (w + IntKind.i64.wrap ((IntKind.i64.wrap (maxV (0 : Int) c * rate)).tdiv (10000 : Int)))) && decide (stepS rate w s c d back = IntKind.i64.wrap (IntKind.i64.wrap (d - w) - IntKind.i64.wrap ((IntKind.i64.wrap (maxV (0 : Int) c * rate)).tdiv (10000 : Int))))) = false) → ((true = false) ∧ (True))))) ∧ ((decide (stepH rate w s c d back = IntKind.i64.wrap ((IntKind.i64.wrap (maxV (0 : Int) c * rate)).tdiv (10000 : Int))) = false) → ((true = false) ∧ (True))))) ∧ ((decide (stepE rate w s c d back = (0 : Int)) = false) → ((true = false) ∧ (True)))))))))) ∧ ((decide (IntKind.i64.wrap ((IntKind.i64.wrap (maxV (0 : Int) c * rate)).tdiv (10000 : Int)) < (0 : Int)) = false) → (Ob (((3 : Nat) ≤ (9000000000000000000 : Nat))) ∧ ((((!rightL [SV.int IntKind.i64 (IntKind.i64.wrap (d - w)), SV.int IntKind.i64 (IntKind.i64.wrap (w + IntKind.i64.wrap ((IntKind.i64.wrap (maxV (0 : Int) c * rate)).tdiv (10000 : Int)))), SV.int IntKind.i64 (IntKind.i64.wrap (IntKind.i64.wrap (d - w) - IntKind.i64.wrap ((IntKind.i64.wrap (maxV (0 : Int) c * rate)).tdiv (10000 : Int))))]) = true) → (((decide (stepE rate w s c d back = (10 : Int)) = true) → (((decide (stepH rate w s c d back = (0 : Int)) = true) → (((decide (stepW rate w s c d back = w) && decide (stepS rate w s c d back = s)) = true) ∧ (True))) ∧ ((decide (stepH rate w s c d back = (0 : Int)) = false) → ((true = false) ∧ (True))))) ∧ ((decide (stepE rate w s c d back = (10 : Int)) = false) → ((true = false) ∧ (True))))) ∧ (((!rightL [SV.int IntKind.i64 (IntKind.i64.wrap (d - w)), SV.int IntKind.i64 (IntKind.i64.wrap (w + IntKind.i64.wrap ((IntKind.i64.wrap (maxV (0 : Int) c * rate)).tdiv (10000 : Int)))), SV.int IntKind.i64 (IntKind.i64.wrap (IntKind.i64.wrap (d - w) - IntKind.i64.wrap ((IntKind.i64.wrap (maxV (0 : Int) c * rate)).tdiv (10000 : Int))))]) = false) → (((decide (stepE rate w s c d back = (0 : Int)) = true) → (((decide (stepH rate w s c d back = IntKind.i64.wrap ((IntKind.i64.wrap (maxV (0 : Int) c * rate)).tdiv (10000 : Int))) = true) → ((((decide (stepW rate w s c d back = IntKind.i64.wrap (w + IntKind.i64.wrap ((IntKind.i64.wrap (maxV (0 : Int) c * rate)).tdiv (10000 : Int)))) && decide (stepS rate w s c d back = IntKind.i64.wrap (IntKind.i64.wrap (d - w) - IntKind.i64.wrap ((IntKind.i64.wrap (maxV (0 : Int) c * rate)).tdiv (10000 : Int))))) = true) → ((decide (IntKind.i64.wrap (stepW rate w s c d back + stepS rate w s c d back) = d) = true) ∧ (True))) ∧ (((decide (stepW rate w s c d back = IntKind.i64.wrap (w + IntKind.i64.wrap ((IntKind.i64.wrap (maxV (0 : Int) c * rate)).tdiv (10000 : Int)))) && decide (stepS rate w s c d back = IntKind.i64.wrap (IntKind.i64.wrap (d - w) - IntKind.i64.wrap ((IntKind.i64.wrap (maxV (0 : Int) c * rate)).tdiv (10000 : Int))))) = false) → ((true = false) ∧ (True))))) ∧ ((decide (stepH rate w s c d back = IntKind.i64.wrap ((IntKind.i64.wrap (maxV (0 : Int) c * rate)).tdiv (10000 : Int))) = false) → ((true = false) ∧ (True))))) ∧ ((decide (stepE rate w s c d back = (0 : Int)) = false) → ((true = false) ∧ (True)))))))))) ∧ ((decide (IntKind.i64.wrap ((IntKind.i64.wrap (maxV (0 : Int) c * rate)).tdiv (10000 : Int)) < IntKind.i64.wrap (d - w)) = false) → (((decide (IntKind.i64.wrap (d - w) < (0 : Int)) = true) → ((((!back) = true) → (Ob (((3 : Nat) ≤ (9000000000000000000 : Nat))) ∧ ((((!rightL [SV.int IntKind.i64 (IntKind.i64.wrap (d - w)), SV.int IntKind.i64 (IntKind.i64.wrap (w + (0 : Int))), SV.int IntKind.i64 (IntKind.i64.wrap (IntKind.i64.wrap (d - w) - (0 : Int)))]) = true) → (((decide (stepE rate w s c d back = (10 : Int)) = true) → (((decide (stepH rate w s c d back = (0 : Int)) = true) → (((decide (stepW rate w s c d back = w) && decide (stepS rate w s c d back = s)) = true) ∧ (True))) ∧ ((decide (stepH rate w s c d back = (0 : Int)) = false) → ((true = false) ∧ (True))))) ∧ ((decide (stepE rate w s c d back = (10 : Int)) = false) → ((true = false) ∧ (True))))) ∧ (((!rightL [SV.int IntKind.i64 (IntKind.i64.wrap (d - w)), SV.int IntKind.i64 (IntKind.i64.wrap (w + (0 : Int))), SV.int IntKind.i64 (IntKind.i64.wrap (IntKind.i64.wrap (d - w) - (0 : Int)))]) = false) → (((decide (stepE rate w s c d back = (0 : Int)) = true) → (((decide (stepH rate w s c d back = (0 : Int)) = true) → ((((decide (stepW rate w s c d back = IntKind.i64.wrap (w + (0 : Int))) && decide (stepS rate w s c d back = IntKind.i64.wrap (IntKind.i64.wrap (d - w) - (0 : Int)))) = true) → ((decide (IntKind.i64.wrap (stepW rate w s c d back + stepS rate w s c d back) = d) = true) ∧ (True))) ∧ (((decide (stepW rate w s c d back = IntKind.i64.wrap (w + (0 : Int))) && decide (stepS rate w s c d back = IntKind.i64.wrap (IntKind.i64.wrap (d - w) - (0 : Int)))) = false) → ((true = false) ∧ (True))))) ∧ ((decide (stepH rate w s c d back = (0 : Int)) = false) → ((true = false) ∧ (True))))) ∧ ((decide (stepE rate w s c d back = (0 : Int)) = false) → ((true = false) ∧ (True)))))))) ∧ (((!back) = false) → (Ob (((3 : Nat) ≤ (9000000000000000000 : Nat))) ∧ ((((!rightL [SV.int IntKind.i64 (IntKind.i64.wrap (d - w)), SV.int IntKind.i64 (IntKind.i64.wrap (w + IntKind.i64.wrap (d - w))), SV.int IntKind.i64 (IntKind.i64.wrap (IntKind.i64.wrap (d - w) - IntKind.i64.wrap (d - w)))]) = true) → (((decide (stepE rate w s c d back = (10 : Int)) = true) → (((decide (stepH rate w s c d back = (0 : Int)) = true) → (((decide (stepW rate w s c d back = w) && decide (stepS rate w s c d back = s)) = true) ∧ (True))) ∧ ((decide (stepH rate w s c d back = (0 : Int)) = false) → ((true = false) ∧ (True))))) ∧ ((decide (stepE rate w s c d back = (10 : Int)) = false) → ((true = false) ∧ (True))))) ∧ (((!rightL [SV.int IntKind.i64 (IntKind.i64.wrap (d - w)), SV.int IntKind.i64 (IntKind.i64.wrap (w + IntKind.i64.wrap (d - w))), SV.int IntKind.i64 (IntKind.i64.wrap (IntKind.i64.wrap (d - w) - IntKind.i64.wrap (d - w)))]) = false) → (((decide (stepE rate w s c d back = (0 : Int)) = true) → (((decide (stepH rate w s c d back = IntKind.i64.wrap (d - w)) = true) → ((((decide (stepW rate w s c d back = IntKind.i64.wrap (w + IntKind.i64.wrap (d - w))) && decide (stepS rate w s c d back = IntKind.i64.wrap (IntKind.i64.wrap (d - w) - IntKind.i64.wrap (d - w)))) = true) → ((decide (IntKind.i64.wrap (stepW rate w s c d back + stepS rate w s c d back) = d) = true) ∧ (True))) ∧ (((decide (stepW rate w s c d back = IntKind.i64.wrap (w + IntKind.i64.wrap (d - w))) && decide (stepS rate w s c d back = IntKind.i64.wrap (IntKind.i64.wrap (d - w) - IntKind.i64.wrap (d - w)))) = false) → ((true = false) ∧ (True))))) ∧ ((decide (stepH rate w s c d back = IntKind.i64.wrap (d - w)) = false) → ((true = false) ∧ (True))))) ∧ ((decide (stepE rate w s c d back = (0 : Int)) = false) → ((true = false) ∧ (True)))))))))) ∧ ((decide (IntKind.i64.wrap (d - w) < (0 : Int)) = false) → (Ob (((3 : Nat) ≤ (9000000000000000000 : Nat))) ∧ ((((!rightL [SV.int IntKind.i64 (IntKind.i64.wrap (d - w)), SV.int IntKind.i64 (IntKind.i64.wrap (w + IntKind.i64.wrap (d - w))), SV.int IntKind.i64 (IntKind.i64.wrap (IntKind.i64.wrap (d - w) - IntKind.i64.wrap (d - w)))]) = true) → (((decide (stepE rate w s c d back = (10 : Int)) = true) → (((decide (stepH rate w s c d back = (0 : Int)) = true) → (((decide (stepW rate w s c d back = w) && decide (stepS rate w s c d back = s)) = true) ∧ (True))) ∧ ((decide (stepH rate w s c d back = (0 : Int)) = false) → ((true = false) ∧ (True))))) ∧ ((decide (stepE rate w s c d back = (10 : Int)) = false) → ((true = false) ∧ (True))))) ∧ (((!rightL [SV.int IntKind.i64 (IntKind.i64.wrap (d - w)), SV.int IntKind.i64 (IntKind.i64.wrap (w + IntKind.i64.wrap (d - w))), SV.int IntKind.i64 (IntKind.i64.wrap (IntKind.i64.wrap (d - w) - IntKind.i64.wrap (d - w)))]) = false) → (((decide (stepE rate w s c d back = (0 : Int)) = true) → (((decide (stepH rate w s c d back = IntKind.i64.wrap (d - w)) = true) → ((((decide (stepW rate w s c d back = IntKind.i64.wrap (w + IntKind.i64.wrap (d - w))) && decide (stepS rate w s c d back = IntKind.i64.wrap (IntKind.i64.wrap (d - w) - IntKind.i64.wrap (d - w)))) = true) → ((decide (IntKind.i64.wrap (stepW rate w s c d back + stepS rate w s c d back) = d) = true) ∧ (True))) ∧ (((decide (stepW rate w s c d back = IntKind.i64.wrap (w + IntKind.i64.wrap (d - w))) && decide (stepS rate w s c d back = IntKind.i64.wrap (IntKind.i64.wrap (d - w) - IntKind.i64.wrap (d - w)))) = false) → ((true = false) ∧ (True))))) ∧ ((decide (stepH rate w s c d back = IntKind.i64.wrap (d - w)) = false) → ((true = false) ∧ (True))))) ∧ ((decide (stepE rate w s c d back = (0 : Int)) = false) → ((true = false) ∧ (True)))))))))))))))))))))) := by kernel_rfl
def sh_hyear : List SV → Option (Int × (List SV))
  | [.int .i64 rate, l'] => (match slOf [.int .i64, .int .i64, .bool] l' with | some l => some (rate, l) | none => none)
  | _ => none
def em_hyear : Int × (List SV) → List SV := fun (rate, l) => [.int .i64 rate, .sl [.int .i64, .int .i64, .bool] l]
theorem sh_hyear_le : ∀ us a, sh_hyear us = some a → leL us (em_hyear a) := by
  intro us a h
  unfold sh_hyear at h
  split at h
  · split at h
    · cases h; exact (.cons (.refl _) (.cons (.sl (by assumption)) .nil))
    · cases h
  · cases h
def hyearC : Con := conOf sh_hyear (fun (rate, l) => some (Ob (in64 rate ∧ wfL [.int .i64, .int .i64, .bool] l))) (fun (rate, l) => .bool true)
set_option maxRecDepth 100000 in
theorem vc_hyear (rate : Int) (l : List SV) : (wpF ⟨122, tyT, [(8, holdsC), (12, yearC), (9, stepC), (11, dueC)], false⟩ ((hyear_an rate l)) [] Try.f4 (em_hyear (rate, l)) (.bool true)) = (((((!true) = true) → ((true = false) ∧ (True))) ∧ (((!true) = false) → (((decide ((60 : Int) < (↑l.length : Int)) = true) → ((true = true) ∧ (True))) ∧ ((decide ((60 : Int) < (↑l.length : Int)) = false) → (Ob ((l.length ≤ (1000000 : Nat))) ∧ ((∃ (x1 : Nat), ((l = l) ∧ ((yrO rate l = yrO rate l) ∧ ((yErr rate l l.length = yErr rate l l.length) ∧ (((0 : Int) = (ys rate l x1).fst) ∧ ((l = l) ∧ (((↑l.length : Int) = (↑l.length : Int)) ∧ (((0 : Int) = (↑x1 : Int)) ∧ ((rate = rate) ∧ (((0 : Int) = (0 : Int)) ∧ ((yrW rate l = yrW rate l) ∧ ((yrS rate l = yrS rate l) ∧ (((0 : Int) = (ys rate l x1).fst) ∧ (((0 : Int) = (ys rate l x1).snd) ∧ (((x1 ≤ l.length) ∧ ((l.length ≤ (60 : Nat)) ∧ (yErr rate l x1 = (0 : Int)))) ∧ ((True) ∧ (True))))))))))))))))) ∧ ∀ (x2 : Nat), (((x2 ≤ l.length) ∧ ((l.length ≤ (60 : Nat)) ∧ (yErr rate l x2 = (0 : Int)))) → (((decide ((↑x2 : Int) < (↑l.length : Int)) = true) → (Ob ((((0 : Int) ≤ (↑x2 : Int)) ∧ ((↑x2 : Int) < (↑l.length : Int)))) ∧ ((((!decide (stepE rate (ys rate l x2).fst (ys rate l x2).snd (elCell l x2 (0 : Nat)).toInt (elCell l x2 (1 : Nat)).toInt (elCell l x2 (2 : Nat)).toBool = (0 : Int))) = true) → (((decide (yErr rate l l.length = stepE rate (ys rate l x2).fst (ys rate l x2).snd (elCell l x2 (0 : Nat)).toInt (elCell l x2 (1 : Nat)).toInt (elCell l x2 (2 : Nat)).toBool) = true) → (((decide ((↑(yrO rate l).length : Int) = (0 : Int)) = true) → (((decide (yrW rate l = (0 : Int)) && decide (yrS rate l = (0 : Int))) = true) ∧ (True))) ∧ ((decide ((↑(yrO rate l).length : Int) = (0 : Int)) = false) → ((true = false) ∧ (True))))) ∧ ((decide (yErr rate l l.length = stepE rate (ys rate l x2).fst (ys rate l x2).snd (elCell l x2 (0 : Nat)).toInt (elCell l x2 (1 : Nat)).toInt (elCell l x2 (2 : Nat)).toBool) = false) → ((true = false) ∧ (True))))) ∧ (((!decide (stepE rate (ys rate l x2).fst (ys rate l x2).snd (elCell l x2 (0 : Nat)).toInt (elCell l x2 (1 : Nat)).toInt (elCell l x2 (2 : Nat)).toBool = (0 : Int))) = false) → (((decide (yErr rate l l.length = (0 : Int)) = true) → ((((!decide ((↑(yrO rate l).length : Int) = (↑l.length : Int))) = true) → ((true = false) ∧ (True))) ∧ (((!decide ((↑(yrO rate l).length : Int) = (↑l.length : Int))) = false) → (Ob ((((0 : Int) ≤ (↑x2 : Int)) ∧ ((↑x2 : Int) < (↑(yrO rate l).length : Int)))) ∧ ((((!decide ((elCell (yrO rate l) x2 (0 : Nat)).toInt = stepH rate (ys rate l x2).fst (ys rate l x2).snd (elCell l x2 (0 : Nat)).toInt (elCell l x2 (1 : Nat)).toInt (elCell l x2 (2 : Nat)).toBool)) = true) → ((true = false) ∧ (True))) ∧ (((!decide ((elCell (yrO rate l) x2 (0 : Nat)).toInt = stepH rate (ys rate l x2).fst (ys rate l x2).snd (elCell l x2 (0 : Nat)).toInt (elCell l x2 (1 : Nat)).toInt (elCell l x2 (2 : Nat)).toBool)) = false) → (∃ (x3 : Nat), ((l = l) ∧ ((yrO rate l = yrO rate l) ∧ ((yErr rate l l.length = yErr rate l l.length) ∧ ((IntKind.i64.wrap ((ys rate l x2).fst + stepH rate (ys rate l x2).fst (ys rate l x2).snd (elCell l x2 (0 : Nat)).toInt (elCell l x2 (1 : Nat)).toInt (elCell l x2 (2 : Nat)).toBool) = (ys rate l x3).fst) ∧ ((l = l) ∧ (((↑l.length : Int) = (↑l.length : Int)) ∧ ((IntKind.i64.wrap ((↑x2 : Int) + (1 : Int)) = (↑x3 : Int)) ∧ ((rate = rate) ∧ (((0 : Int) = (0 : Int)) ∧ ((yrW rate l = yrW rate l) ∧ ((yrS rate l = yrS rate l) ∧ ((stepW rate (ys rate l x2).fst (ys rate l x2).snd (elCell l x2 (0 : Nat)).toInt (elCell l x2 (1 : Nat)).toInt (elCell l x2 (2 : Nat)).toBool = (ys rate l x3).fst) ∧ ((stepS rate (ys rate l x2).fst (ys rate l x2).snd (elCell l x2 (0 : Nat)).toInt (elCell l x2 (1 : Nat)).toInt (elCell l x2 (2 : Nat)).toBool = (ys rate l x3).snd) ∧ (((x3 ≤ l.length) ∧ ((l.length ≤ (60 : Nat)) ∧ (yErr rate l x3 = (0 : Int)))) ∧ ((l.length - x3 < l.length - x2) ∧ (True))))))))))))))))))))))) ∧ ((decide (yErr rate l l.length = (0 : Int)) = false) → (∃ (x4 : Nat), ((l = l) ∧ ((yrO rate l = yrO rate l) ∧ ((yErr rate l l.length = yErr rate l l.length) ∧ ((IntKind.i64.wrap ((ys rate l x2).fst + stepH rate (ys rate l x2).fst (ys rate l x2).snd (elCell l x2 (0 : Nat)).toInt (elCell l x2 (1 : Nat)).toInt (elCell l x2 (2 : Nat)).toBool) = (ys rate l x4).fst) ∧ ((l = l) ∧ (((↑l.length : Int) = (↑l.length : Int)) ∧ ((IntKind.i64.wrap ((↑x2 : Int) + (1 : Int)) = (↑x4 : Int)) ∧ ((rate = rate) ∧ (((0 : Int) = (0 : Int)) ∧ ((yrW rate l = yrW rate l) ∧ ((yrS rate l = yrS rate l) ∧ ((stepW rate (ys rate l x2).fst (ys rate l x2).snd (elCell l x2 (0 : Nat)).toInt (elCell l x2 (1 : Nat)).toInt (elCell l x2 (2 : Nat)).toBool = (ys rate l x4).fst) ∧ ((stepS rate (ys rate l x2).fst (ys rate l x2).snd (elCell l x2 (0 : Nat)).toInt (elCell l x2 (1 : Nat)).toInt (elCell l x2 (2 : Nat)).toBool = (ys rate l x4).snd) ∧ (((x4 ≤ l.length) ∧ ((l.length ≤ (60 : Nat)) ∧ (yErr rate l x4 = (0 : Int)))) ∧ ((l.length - x4 < l.length - x2) ∧ (True))))))))))))))))))))))) ∧ ((decide ((↑x2 : Int) < (↑l.length : Int)) = false) → ((((!decide (yErr rate l l.length = (0 : Int))) = true) → ((true = false) ∧ (True))) ∧ (((!decide (yErr rate l l.length = (0 : Int))) = false) → ((((!(decide (yrW rate l = (ys rate l x2).fst) && decide (yrS rate l = (ys rate l x2).snd))) = true) → ((true = false) ∧ (True))) ∧ (((!(decide (yrW rate l = (ys rate l x2).fst) && decide (yrS rate l = (ys rate l x2).snd))) = false) → ((((!decide (yrW rate l = (ys rate l x2).fst)) = true) → ((true = false) ∧ (True))) ∧ (((!decide (yrW rate l = (ys rate l x2).fst)) = false) → ((((!decide ((↑(yrO rate l).length : Int) = (↑l.length : Int))) = true) → ((true = false) ∧ (True))) ∧ (((!decide ((↑(yrO rate l).length : Int) = (↑l.length : Int))) = false) → (((decide ((↑l.length : Int) = (0 : Int)) = true) → ((true = true) ∧ (True))) ∧ ((decide ((↑l.length : Int) = (0 : Int)) = false) → (Ob ((((0 : Int) ≤ IntKind.i64.wrap ((↑l.length : Int) - (1 : Int))) ∧ (IntKind.i64.wrap ((↑l.length : Int) - (1 : Int)) < (↑l.length : Int)))) ∧ ((decide (IntKind.i64.wrap (yrW rate l + yrS rate l) = (elCell l (IntKind.i64.wrap ((↑l.length : Int) - (1 : Int))).toNat (1 : Nat)).toInt) = true) ∧ (True))))))))))))))))))))))) := by kernel_rfl
def sh_hlimit : List SV → Option (Int × Int)
  | [.int .i64 rate, .int .i64 cash] => some (rate, cash)
  | _ => none
def em_hlimit : Int × Int → List SV := fun (rate, cash) => [.int .i64 rate, .int .i64 cash]
theorem sh_hlimit_le : ∀ us a, sh_hlimit us = some a → leL us (em_hlimit a) := by
  intro us a h
  unfold sh_hlimit at h
  split at h
  · cases h; exact (.cons (.refl _) (.cons (.refl _) .nil))
  · cases h
def hlimitC : Con := conOf sh_hlimit (fun (rate, cash) => some (Ob (in64 rate ∧ in64 cash))) (fun (rate, cash) => .bool true)
set_option maxRecDepth 100000 in
theorem vc_hlimit (rate : Int) (cash : Int) : (wpF ⟨63, tyT, [(8, holdsC), (13, limitC)], false⟩ (noAnn) [] Try.f5 (em_hlimit (rate, cash)) (.bool true)) = (((((!true) = true) → ((true = false) ∧ (True))) ∧ (((!true) = false) → (((decide ((100000000000 : Int) < cash) = true) → (((decide (limE rate cash = (10 : Int)) = true) → ((decide (limV rate cash = (0 : Int)) = true) ∧ (True))) ∧ ((decide (limE rate cash = (10 : Int)) = false) → ((true = false) ∧ (True))))) ∧ ((decide ((100000000000 : Int) < cash) = false) → (((decide (rate < (0 : Int)) = true) → (((decide (limE rate cash = (50 : Int)) = true) → ((decide (limV rate cash = (0 : Int)) = true) ∧ (True))) ∧ ((decide (limE rate cash = (50 : Int)) = false) → ((true = false) ∧ (True))))) ∧ ((decide (rate < (0 : Int)) = false) → (((decide ((10000 : Int) < rate) = true) → (((decide (limE rate cash = (50 : Int)) = true) → ((decide (limV rate cash = (0 : Int)) = true) ∧ (True))) ∧ ((decide (limE rate cash = (50 : Int)) = false) → ((true = false) ∧ (True))))) ∧ ((decide ((10000 : Int) < rate) = false) → (((decide (cash ≤ (0 : Int)) = true) → (((decide (limE rate cash = (0 : Int)) = true) → ((decide (limV rate cash = (0 : Int)) = true) ∧ (True))) ∧ ((decide (limE rate cash = (0 : Int)) = false) → ((true = false) ∧ (True))))) ∧ ((decide (cash ≤ (0 : Int)) = false) → (((decide (limE rate cash = (0 : Int)) = true) → (((decide (IntKind.i64.wrap (limV rate cash * (10000 : Int)) ≤ IntKind.i64.wrap (cash * rate)) = true) → ((decide (IntKind.i64.wrap (cash * rate) < IntKind.i64.wrap (IntKind.i64.wrap (limV rate cash + (1 : Int)) * (10000 : Int))) = true) ∧ (True))) ∧ ((decide (IntKind.i64.wrap (limV rate cash * (10000 : Int)) ≤ IntKind.i64.wrap (cash * rate)) = false) → ((true = false) ∧ (True))))) ∧ ((decide (limE rate cash = (0 : Int)) = false) → ((true = false) ∧ (True))))))))))))))) := by kernel_rfl
theorem yErr_stay {r : Int} {l : List SV} {i : Nat} (h : yErr r l i ≠ 0) : ∀ j, i ≤ j → yErr r l j = yErr r l i
  | 0, hj => by rw [Nat.le_zero.1 hj]
  | j + 1, hj => by
    rcases Nat.lt_or_ge i (j + 1) with h1 | h1
    · have := yErr_stay h j (by omega)
      simp only [yErr]
      rw [if_neg (by rw [this]; exact h), this]
    · rw [show i = j + 1 by omega]
theorem yErr_back {r : Int} {l : List SV} {i j : Nat} (h : yErr r l j = 0) (hi : i ≤ j) : yErr r l i = 0 := by
  apply Classical.byContradiction
  intro hc
  have := yErr_stay hc j hi
  rw [h] at this
  exact hc this.symm
theorem yErr_next {r : Int} {l : List SV} {i : Nat} (h : yErr r l i = 0) : yErr r l (i + 1) = yE r l i := by simp only [yErr]; rw [if_pos h]
theorem yOut_next (r : Int) (l : List SV) (n : Nat) : yOut r l (n + 1) = yOut r l n ++ [.int .i64 (yH r l n)] := by
  unfold yOut; rw [List.range_succ, List.map_append]; rfl
theorem yOut_length (r : Int) (l : List SV) (n : Nat) : (yOut r l n).length = n := by simp [yOut]

theorem lim_all (r c : Int) : (100000000000 < c ∧ limE r c = 10 ∧ limV r c = 0) ∨ (c ≤ 100000000000 ∧ (r < 0 ∨ 10000 < r) ∧ limE r c = 50 ∧ limV r c = 0) ∨
    (c ≤ 0 ∧ 0 ≤ r ∧ r ≤ 10000 ∧ limE r c = 0 ∧ limV r c = 0) ∨ (0 < c ∧ c ≤ 100000000000 ∧ 0 ≤ r ∧ r ≤ 10000 ∧ limE r c = 0 ∧ limV r c = c * r / 10000 ∧ 0 ≤ c * r ∧ c * r ≤ 1000000000000000 ∧ limV r c ≤ c) := by
  have e := limE_eq r c
  have z : limE r c ≠ 0 → limV r c = 0 := fun h => by
    unfold limE at h
    unfold limV takeV
    rw [if_neg h]
  by_cases h1 : c ≤ 100000000000
  · rw [if_pos h1] at e
    cases h2 : rateB r with
    | false =>
      rw [h2] at e
      have : ¬ (0 ≤ r ∧ r ≤ 10000) := fun hc => by rw [rateB_iff.2 hc] at h2; cases h2
      exact .inr (.inl ⟨h1, by omega, e, z (by rw [e]; decide)⟩)
    | true =>
      rw [h2] at e
      have hr := rateB_iff.1 h2
      obtain ⟨l1, l2, l3, l4, l5⟩ := lim_at e
      rcases maxV_0 c with ⟨m1, m2⟩ | ⟨m1, m2⟩
      · rw [m2] at l1 l3
        by_cases h0 : c = 0
        · subst h0; exact .inr (.inr (.inl ⟨by omega, hr.1, hr.2, e, by omega⟩))
        · have := mul_in (x := c) (r := r) (by omega) hr
          exact .inr (.inr (.inr ⟨by omega, h1, hr.1, hr.2, e, l1, Int.mul_nonneg m1 hr.1, this.2, l3⟩))
      · rw [m2] at l3
        exact .inr (.inr (.inl ⟨by omega, hr.1, hr.2, e, by omega⟩))
  · rw [if_neg h1] at e
    exact .inl ⟨by omega, e, z (by rw [e]; decide)⟩
theorem rightB_f {x : Int} (h : ¬ rightB x = true) : ¬ (-100000000000 ≤ x ∧ x ≤ 100000000000) := fun hc => h (rightB_iff.2 hc)

/-- A step that may be. -/
theorem step_ok {r w s c d : Int} {b : Bool} (h : stepE r w s c d b = 0) : stepW r w s c d b = w + stepH r w s c d b ∧ stepW r w s c d b + stepS r w s c d b = d ∧
    (-100000000000 ≤ stepW r w s c d b ∧ stepW r w s c d b ≤ 100000000000) ∧ (-100000000000 ≤ d ∧ d ≤ 100000000000) ∧ (-100000000000 ≤ stepS r w s c d b ∧ stepS r w s c d b ≤ 100000000000) ∧
    stepH r w s c d b = partH (d - w) (limV r c) b ∧ limE r c = 0 ∧ rightB w = true := by
  have h' := h
  unfold stepE at h'
  split at h'
  · rename_i hR
    simp only [stepR, Bool.and_eq_true] at hR
    split at h'
    · split at h'
      · split at h'
        · split at h'
          · have := rightB_iff.1 hR.2.2.2
            have h1 : stepH r w s c d b = heldS r w s c d b := by simp only [stepH, h, if_true]
            have h2 : stepW r w s c d b = w + heldS r w s c d b := by simp only [stepW, h, if_true]
            have h3 : stepS r w s c d b = d - w - heldS r w s c d b := by simp only [stepS, h, if_true]
            rename_i q1 q2 q3 q4
            have q3 := rightB_iff.1 q3
            have q4 := rightB_iff.1 q4
            refine ⟨by omega, by omega, by omega, this, by omega, h1, q1, hR.1⟩
          · omega
        · omega
      · omega
    · contradiction
  · omega
theorem yH_get {r : Int} {l : List SV} {n i : Nat} (h : i < n) : (elCell (yOut r l n) i 0).toInt = yH r l i := by
  unfold elCell yOut
  rw [getD_map (fun i => SV.int .i64 (yH r l i)) (List.range n) i 0 .any (by simpa using h)]
  simp [List.getD_eq_getElem?_getD, h, SV.cells, SV.toInt]

theorem year_known : Known Try.prog 12 yearC := by
  refine known1 (nt := 45) (An := fun (r, l) => (year_an r l)) (labs := []) (lit := false) (em := em_year) sh_year_le (by kernel_rfl) mixedT tyT_ok (.cons step_known .nil) Try.func12 (by kernel_rfl) (fun a => by obtain ⟨r, l⟩ := a; kernel_rfl) (fun a => by obtain ⟨r, l⟩ := a; rfl) (fun a ha => ?_)
  obtain ⟨r, l⟩ := a
  replace ha : l.length ≤ 1000000 := ha.out
  refine Eq.mpr (vc_year r l) ?_
  refine ⟨⟨0, rfl, rfl, rfl, rfl, rfl, rfl, rfl, rfl, rfl, ⟨by omega, rfl⟩, trivial, trivial⟩, fun i hi => ⟨fun h1 => ?_, fun h1 => ?_⟩⟩
  · simp only [decide_eq_true_eq] at h1
    have hE : yErr r l (i + 1) = yE r l i := yErr_next hi.2
    refine ⟨⟨by omega⟩, fun h2 => ?_, fun h2 => ?_⟩
    · have hne : yE r l i ≠ 0 := by simpa [yE, payC, payD, payB] using h2
      have hall : yErr r l l.length = yE r l i := by
        rw [← hE]; exact yErr_stay (by rw [hE]; exact hne) _ (by omega)
      refine ⟨?_, ?_, ?_, ?_, trivial⟩
      · unfold yrO; rw [if_neg (by rw [hall]; exact hne)]
      · unfold yrW; rw [if_neg (by rw [hall]; exact hne)]
      · unfold yrS; rw [if_neg (by rw [hall]; exact hne)]
      · rw [hall]; rfl
    · have h0 : yE r l i = 0 := by simpa [yE, payC, payD, payB] using h2
      refine ⟨⟨by rw [yOut_length]; omega⟩, i + 1, rfl, rfl, ?_, rfl, rfl, rfl, rfl, rfl, ?_, ⟨by omega, by rw [hE]; exact h0⟩, by omega, trivial⟩
      · rw [wrapI (by omega)]; rfl
      · rw [yOut_next]; rfl
  · simp only [decide_eq_false_iff_not] at h1
    have : i = l.length := by omega
    subst this
    refine ⟨?_, ?_, ?_, hi.2.symm, trivial⟩
    · unfold yrO; rw [if_pos hi.2]
    · unfold yrW; rw [if_pos hi.2]
    · unfold yrS; rw [if_pos hi.2]

theorem holds_known : Known Try.prog 8 holdsC := by
  refine known1 (nt := 75) (An := fun _ => noAnn) (labs := []) (lit := false) (em := em_holds) sh_holds_le (by kernel_rfl) mixedT tyT_ok (.cons half_known (.cons year_known (.cons limit_known (.cons due_known (.cons hpart_known .nil))))) Try.func8 (by kernel_rfl) (fun a => by kernel_rfl) (fun a => by rfl) (fun a ha => ?_)
  cases a
  refine Eq.mpr (vc_holds ()) ?_
  simp

theorem hsteps_known : Known Try.prog 3 hstepsC := by
  refine known1 (nt := 141) (An := fun (rate, w, s, c, d, back) => noAnn) (labs := []) (lit := false) (em := em_hsteps) sh_hsteps_le (by kernel_rfl) mixedT tyT_ok (.cons holds_known (.cons step_known (.cons lawright_known (.cons due_known .nil)))) Try.func3 (by kernel_rfl) (fun a => by obtain ⟨rate, w, s, c, d, back⟩ := a; kernel_rfl) (fun a => by obtain ⟨rate, w, s, c, d, back⟩ := a; rfl) (fun a ha => ?_)
  obtain ⟨rate, w, s, c, d, back⟩ := a
  replace ha : in64 rate ∧ in64 w ∧ in64 s ∧ in64 c ∧ in64 d := ha.out
  refine Eq.mpr (vc_hsteps rate w s c d back) ?_
  obtain ⟨hr, hw, hs, hc, hd⟩ := ha
  have e4 : rightL [.int .i64 w, .int .i64 s, .int .i64 c, .int .i64 d] = stepR w s c d := by simp [rightL, stepR, ints, elCell, SV.cells, SV.toInt]
  have e3 : ∀ x y z : Int, rightL [.int .i64 x, .int .i64 y, .int .i64 z] = (rightB x && (rightB y && rightB z)) := by intros; simp [rightL, ints, elCell, SV.cells, SV.toInt]
  simp only [e4, e3]
  refine ⟨(fun h => by cases h), fun _ => ⟨⟨by omega⟩, fun h => ?_, fun h => ?_⟩⟩
  · have hR : stepR w s c d = false := by simpa using h
    simp [stepE, stepH, stepW, stepS, hR]
  · have hR : stepR w s c d = true := by simpa using h
    have hR' := hR
    simp only [stepR, Bool.and_eq_true, rightB_iff] at hR'
    obtain ⟨r1, r2, r3, r4⟩ := hR'
    have e := lim_all rate c
    by_cases hrr : 0 ≤ rate ∧ rate ≤ 10000
    · have hm : maxV 0 c * rate / 10000 = limV rate c ∧ 0 ≤ maxV 0 c * rate ∧ maxV 0 c * rate ≤ 1000000000000000 ∧ limE rate c = 0 ∧ 0 ≤ limV rate c := by
        have hl : limE rate c = 0 := by omega
        obtain ⟨l1, l2, l3, l4, l5⟩ := lim_at hl
        have := rightB_iff.1 l5
        have := mul_in this hrr
        have h0 : 0 ≤ maxV 0 c := by rcases maxV_0 c with h | h <;> omega
        exact ⟨l1.symm, Int.mul_nonneg h0 hrr.1, this.2, hl, l2⟩
      obtain ⟨m1, m2, m3, m4, m5⟩ := hm
      have hL : limV rate c ≤ 100000000000 := by omega
      simp only [wrapI (n := maxV 0 c * rate) (by omega), Int.tdiv_eq_ediv_of_nonneg m2, m1, wrapI (n := limV rate c) (by omega), wrapI (n := d - w) (by omega)]
      simp only [stepE, stepH, stepW, stepS, hR, m4, heldS, if_true]
      have hh : ∃ h, partH (d - w) (limV rate c) back = h ∧ ((limV rate c < d - w ∧ h = limV rate c) ∨ (d - w ≤ limV rate c ∧ d - w < 0 ∧ back = false ∧ h = 0) ∨ (d - w ≤ limV rate c ∧ d - w < 0 ∧ back = true ∧ h = d - w) ∨ (d - w ≤ limV rate c ∧ 0 ≤ d - w ∧ h = d - w)) := by
        refine ⟨_, rfl, ?_⟩
        unfold partH minV maxV
        cases back <;> simp <;> (repeat' split) <;> omega
      obtain ⟨h, h1, h2⟩ := hh
      simp only [h1]
      have hwr : ∀ x, -200000000000 ≤ x ∧ x ≤ 200000000000 → IntKind.i64.wrap (w + x) = w + x ∧ IntKind.i64.wrap (d - w - x) = d - w - x := fun x hx => ⟨wrapI (by omega), wrapI (by omega)⟩
      have hsum : IntKind.i64.wrap (w + h + (d - w - h)) = d := by
        rw [show w + h + (d - w - h) = d by omega]; exact wrapI (by omega)
      simp only [(hwr (limV rate c) (by omega)).1, (hwr (limV rate c) (by omega)).2, (hwr 0 (by omega)).1, (hwr 0 (by omega)).2, (hwr (d - w) (by omega)).1, (hwr (d - w) (by omega)).2]
      have n1 : ¬ rate < 0 := by omega
      have n2 : ¬ 10000 < rate := by omega
      have n3 : ¬ limV rate c < 0 := by omega
      clear hwr h1 m1 m2 m3 e e3 e4 hrr hL
      by_cases b1 : rightB (d - w) = true
      · by_cases b2 : rightB (w + h) = true
        · by_cases b3 : rightB (d - w - h) = true
          · rcases h2 with ⟨q1, rfl⟩ | ⟨q1, q2, rfl, rfl⟩ | ⟨q1, q2, rfl, rfl⟩ | ⟨q1, q2, rfl⟩
            · simp_all <;> (intro hx; exact absurd hx (by omega))
            · simp_all [show ¬ limV rate c < d - w by omega, q2, b1, b2, b3, hsum]
            · simp_all [show ¬ limV rate c < d - w by omega, q2, b1, b2, b3, hsum]
            · simp_all [show ¬ limV rate c < d - w by omega, show ¬ d - w < 0 by omega, b1, b2, b3, hsum]
          · rcases h2 with ⟨q1, rfl⟩ | ⟨q1, q2, rfl, rfl⟩ | ⟨q1, q2, rfl, rfl⟩ | ⟨q1, q2, rfl⟩
            · simp_all <;> (intro hx; exact absurd hx (by omega))
            · simp_all [show ¬ limV rate c < d - w by omega, q2, b1, b2, b3]
            · simp_all [show ¬ limV rate c < d - w by omega, q2, b1, b2, b3]
            · simp_all [show ¬ limV rate c < d - w by omega, show ¬ d - w < 0 by omega, b1, b2, b3]
        · rcases h2 with ⟨q1, rfl⟩ | ⟨q1, q2, rfl, rfl⟩ | ⟨q1, q2, rfl, rfl⟩ | ⟨q1, q2, rfl⟩
          · simp_all <;> (intro hx; exact absurd hx (by omega))
          · simp_all [show ¬ limV rate c < d - w by omega, q2, b1, b2]
          · simp_all [show ¬ limV rate c < d - w by omega, q2, b1, b2]
          · simp_all [show ¬ limV rate c < d - w by omega, show ¬ d - w < 0 by omega, b1, b2]
      · rcases h2 with ⟨q1, rfl⟩ | ⟨q1, q2, rfl, rfl⟩ | ⟨q1, q2, rfl, rfl⟩ | ⟨q1, q2, rfl⟩
        · simp_all <;> (intro hx; exact absurd hx (by omega))
        · simp_all [show ¬ limV rate c < d - w by omega, q2, b1]
        · simp_all [show ¬ limV rate c < d - w by omega, q2, b1]
        · simp_all [show ¬ limV rate c < d - w by omega, show ¬ d - w < 0 by omega, b1]
    · have hl : limE rate c = 50 := by omega
      by_cases n1 : rate < 0
      · simp [stepE, stepH, stepW, stepS, hR, hl, n1]
      · simp [stepE, stepH, stepW, stepS, hR, hl, n1, show 10000 < rate by omega]

theorem hyear_known : Known Try.prog 4 hyearC := by
  refine known1 (nt := 122) (An := fun (rate, l) => (hyear_an rate l)) (labs := []) (lit := false) (em := em_hyear) sh_hyear_le (by kernel_rfl) mixedT tyT_ok (.cons holds_known (.cons year_known (.cons step_known (.cons due_known .nil)))) Try.func4 (by kernel_rfl) (fun a => by obtain ⟨rate, l⟩ := a; kernel_rfl) (fun a => by obtain ⟨rate, l⟩ := a; rfl) (fun a ha => ?_)
  obtain ⟨rate, l⟩ := a
  replace ha : in64 rate ∧ wfL [.int .i64, .int .i64, .bool] l := ha.out
  refine Eq.mpr (vc_hyear rate l) ?_
  have c1 : ∀ i, stepE rate (ys rate l i).fst (ys rate l i).snd (elCell l i 0).toInt (elCell l i 1).toInt (elCell l i 2).toBool = yE rate l i := fun _ => rfl
  have c2 : ∀ i, stepH rate (ys rate l i).fst (ys rate l i).snd (elCell l i 0).toInt (elCell l i 1).toInt (elCell l i 2).toBool = yH rate l i := fun _ => rfl
  have c3 : ∀ i, stepW rate (ys rate l i).fst (ys rate l i).snd (elCell l i 0).toInt (elCell l i 1).toInt (elCell l i 2).toBool = (ys rate l (i + 1)).1 := fun _ => rfl
  have c4 : ∀ i, stepS rate (ys rate l i).fst (ys rate l i).snd (elCell l i 0).toInt (elCell l i 1).toInt (elCell l i 2).toBool = (ys rate l (i + 1)).2 := fun _ => rfl
  simp only [c1, c2, c3, c4]
  clear c1 c2 c3 c4
  simp only [eq_self, true_and, and_true, and_self, Bool.not_true, Bool.not_false, Bool.false_eq_true, Bool.true_eq_false, false_implies, true_implies, implies_true, imp_false, not_true, not_false_eq_true, decide_eq_true_eq, decide_eq_false_iff_not, Bool.not_eq_true', Bool.not_eq_false', Bool.and_eq_true, Classical.not_not, decide_true, decide_false, Bool.and_true, Bool.true_and, if_true, if_false, Ob_iff]
  intro h0
  refine ⟨by omega, ⟨0, rfl, rfl, rfl, rfl, by omega, by omega, rfl⟩, fun i ⟨hi1, hi2, hi3⟩ => ⟨fun h1 => ⟨by omega, fun h2 => ?_, fun h2 => ?_⟩, fun h1 => ?_⟩⟩
  · have hE : yErr rate l (i + 1) = yE rate l i := yErr_next hi3
    have hall : yErr rate l l.length = yE rate l i := by
      rw [← hE]; exact yErr_stay (by rw [hE]; exact h2) _ (by omega)
    simp [hall, h2, yrO, yrW, yrS]
  · have hE : yErr rate l (i + 1) = yE rate l i := yErr_next hi3
    obtain ⟨s1, s2, s3, s4, s5, s6⟩ := step_ok h2
    have s1 : (ys rate l (i + 1)).1 = (ys rate l i).1 + yH rate l i := s1
    have s3 : -100000000000 ≤ (ys rate l (i + 1)).1 ∧ (ys rate l (i + 1)).1 ≤ 100000000000 := s3
    have next : IntKind.i64.wrap ((ys rate l i).1 + yH rate l i) = (ys rate l (i + 1)).1 := by rw [← s1]; exact wrapI (by omega)
    have nexti : IntKind.i64.wrap ((i : Int) + 1) = ((i + 1 : Nat) : Int) := by rw [wrapI (by omega)]; rfl
    have goal : ∃ x3 : Nat, IntKind.i64.wrap ((ys rate l i).1 + yH rate l i) = (ys rate l x3).1 ∧ IntKind.i64.wrap ((i : Int) + 1) = (x3 : Int) ∧ (ys rate l (i + 1)).1 = (ys rate l x3).1 ∧ (ys rate l (i + 1)).2 = (ys rate l x3).2 ∧
        (x3 ≤ l.length ∧ l.length ≤ 60 ∧ yErr rate l x3 = 0) ∧ l.length - x3 < l.length - i :=
      ⟨i + 1, next, nexti, rfl, rfl, ⟨by omega, by omega, by rw [hE]; exact h2⟩, by omega⟩
    refine ⟨fun hn => ?_, fun _ => goal⟩
    have ho : yrO rate l = yOut rate l l.length := by unfold yrO; rw [if_pos hn]
    rw [ho, yOut_length]
    exact ⟨rfl, fun _ => ⟨⟨by omega, by omega⟩, yH_get (by omega), fun _ => goal⟩⟩
  · have : i = l.length := by omega
    subst this
    have hn := hi3
    have ho : yrO rate l = yOut rate l l.length := by unfold yrO; rw [if_pos hn]
    have hw : yrW rate l = (ys rate l l.length).1 := by unfold yrW; rw [if_pos hn]
    have hs : yrS rate l = (ys rate l l.length).2 := by unfold yrS; rw [if_pos hn]
    simp only [hn, ho, hw, hs, yOut_length]
    simp only [eq_self, true_and, and_true, and_self, Bool.not_true, Bool.not_false, Bool.false_eq_true, Bool.true_eq_false, false_implies, true_implies, implies_true, imp_false, not_true, not_false_eq_true, decide_eq_true_eq, decide_eq_false_iff_not, Bool.not_eq_true', Bool.not_eq_false', Bool.and_eq_true, Classical.not_not, decide_true, decide_false, Bool.and_true, Bool.true_and, if_true, if_false, Ob_iff]
    intro h
    rw [wrapI (n := (l.length : Int) - 1) (by omega)]
    refine ⟨by omega, ?_⟩
    obtain ⟨k, hk⟩ : ∃ k, l.length = k + 1 := ⟨l.length - 1, by omega⟩
    rw [hk] at hn ⊢
    have h0 := yErr_back hn (i := k) (by omega)
    have h1 := yErr_next h0
    rw [hn] at h1
    obtain ⟨s1, s2, s3, s4, s5, s6⟩ := step_ok h1.symm
    have s2 : (ys rate l (k + 1)).1 + (ys rate l (k + 1)).2 = (elCell l k 1).toInt := s2
    rw [show (((k + 1 : Nat) : Int) - 1).toNat = k by omega, ← s2]
    exact wrapI (by rw [s2]; exact ⟨by have := s4.1; unfold payD at this; omega, by have := s4.2; unfold payD at this; omega⟩)

theorem hlimit_known : Known Try.prog 5 hlimitC := by
  refine known1 (nt := 63) (An := fun (rate, cash) => noAnn) (labs := []) (lit := false) (em := em_hlimit) sh_hlimit_le (by kernel_rfl) mixedT tyT_ok (.cons holds_known (.cons limit_known .nil)) Try.func5 (by kernel_rfl) (fun a => by obtain ⟨rate, cash⟩ := a; kernel_rfl) (fun a => by obtain ⟨rate, cash⟩ := a; rfl) (fun a ha => ?_)
  obtain ⟨rate, cash⟩ := a
  replace ha : in64 rate ∧ in64 cash := ha.out
  refine Eq.mpr (vc_hlimit rate cash) ?_
  obtain ⟨hr, hc⟩ := ha
  have e := lim_all rate cash
  generalize limV rate cash = L at *
  generalize limE rate cash = E at *
  generalize cash * rate = p at *
  rcases e with h | h | h | h
  case inr.inr.inr =>
    simp only [wrapI (n := L * 10000) (by omega), wrapI (n := p) (by omega), wrapI (n := L + 1) (by omega), wrapI (n := (L + 1) * 10000) (by omega)]
    simp only [eq_self, true_and, and_true, and_self, Bool.not_true, Bool.not_false, Bool.false_eq_true, Bool.true_eq_false, false_implies, true_implies, implies_true, imp_false, not_true, not_false_eq_true, decide_eq_true_eq, decide_eq_false_iff_not, Bool.not_eq_true', Bool.not_eq_false', Bool.and_eq_true, Classical.not_not, decide_true, decide_false, Bool.and_true, Bool.true_and, if_true, if_false, Ob_iff]
    repeat' first | exact trivial | with_reducible rfl | apply And.intro | apply Ob.mk | intro _
    all_goals omega
  all_goals simp only [eq_self, true_and, and_true, and_self, Bool.not_true, Bool.not_false, Bool.false_eq_true, Bool.true_eq_false, false_implies, true_implies, implies_true, imp_false, not_true, not_false_eq_true, decide_eq_true_eq, decide_eq_false_iff_not, Bool.not_eq_true', Bool.not_eq_false', Bool.and_eq_true, Classical.not_not, decide_true, decide_false, Bool.and_true, Bool.true_and, if_true, if_false, Ob_iff]
  all_goals repeat' first | exact trivial | with_reducible rfl | apply And.intro | apply Ob.mk | intro _
  all_goals omega

end Go.Rx
