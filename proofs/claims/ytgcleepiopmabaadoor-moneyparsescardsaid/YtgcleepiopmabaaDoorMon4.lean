/- Amounts: to multiples of one, and in parts of no more than one. -/
import Derived.Test.YtgcleepiopmabaaDoorMon3
namespace Go.Rx
open Go.Proofs
set_option linter.unusedSimpArgs false
set_option linter.unusedVariables false

def quL (x u : Int) (up : Bool) : Int := x - x % u + (if up = true ∧ 0 < x % u then u else 0)
def quE (x u : Int) (up : Bool) : Int := if rightB x = true ∧ rightB u = true then (if u ≤ 0 then 1 else chkE (rightB (quL x u up))) else 10
def quV (x u : Int) (up : Bool) : Int := if quE x u up = 0 then quL x u up else 0
def paN (x e : Int) : Nat := ((x + e - 1) / e).toNat
def paA (x e : Int) (j : Nat) : SV := .int .i64 (min e (x - j * e))
def paE (x e : Int) : Int := if rightB x = true ∧ rightB e = true then (if x < 0 ∨ e ≤ 0 then 1 else if x ≤ 64 * e then 0 else 2) else 10
def paL (x e : Int) : List SV := if paE x e = 0 then (List.range (paN x e)).map (paA x e) else []
def pa_an (x e : Int) : Nat → Option Ann
  | 0 => some ⟨Nat, fun i => ⟨[(0, .int .i64 (max 0 (x - i * e))), (1, .int .i64 e), (6, .osl 6 0)], [(6, .row 0 2 [.int .i64] ((List.range i).map (paA x e)))]⟩, fun i => i ≤ paN x e ∧ 0 ≤ x ∧ x ≤ 64 * e ∧ 0 < e ∧ e ≤ 100000000000, fun i => paN x e - i, [0, 1, 6], [6], [(6, 6, 2, [.int .i64])]⟩
  | 4007 => some ⟨Unit, fun _ => ⟨[(0, .int .i64 x), (1, .int .i64 e)], []⟩, fun _ => rightB x = true ∧ 0 ≤ x ∧ x ≤ 64 * e ∧ 0 < e ∧ rightB e = true, fun _ => 0, [0, 1], [], []⟩
  | _ => none
def units_an (x u : Int) : Nat → Option Ann
  | 1 => some ⟨Nat, fun i => ⟨[(0, .int .i64 x), (1, .int .i64 u), (9, .sl [.int .i64] (paL x u)), (10, .int .i64 (paE x u)), (11, .int .i64 (min x (i * u))), (135, .sl [.int .i64] (paL x u)), (136, .int .i64 (paL x u).length), (137, .int .i64 i)], []⟩, fun i => i ≤ (paL x u).length ∧ rightB x = true ∧ rightB u = true ∧ 0 ≤ x ∧ 0 < u, fun i => (paL x u).length - i, [0, 1, 9, 10, 11, 135, 136, 137], [], []⟩
  | 4014 => some ⟨Unit, fun _ => ⟨[(0, .int .i64 x), (1, .int .i64 u), (9, .sl [.int .i64] (paL x u)), (10, .int .i64 (paE x u))], []⟩, fun _ => rightB x = true ∧ rightB u = true ∧ 0 < u, fun _ => 0, [0, 1, 9, 10], [], []⟩
  | _ => none

def sh_mquant : List SV → Option (Int × Int × Bool)
  | [.int .i64 x, .int .i64 u, up'] => (match bOf up' with | some up => some (x, u, up) | _ => none)
  | _ => none
def em_mquant : Int × Int × Bool → List SV := fun (x, u, up) => [.int .i64 x, .int .i64 u, .bool up]
theorem sh_mquant_le : ∀ us a, sh_mquant us = some a → leL us (em_mquant a) := by
  intro us a h
  unfold sh_mquant at h
  split at h
  · split at h
    · cases h; exact (.cons (.refl _) (.cons (.refl _) (.cons (.bool (by assumption)) .nil)))
    · cases h
  · cases h
def mquantC : Con := conOf sh_mquant (fun (x, u, up) => some (Ob (in64 x ∧ in64 u))) (fun (x, u, up) => .tup [.int .i64 (quV x u up), .int .i64 (quE x u up)])
set_option maxRecDepth 100000 in
theorem vc_mquant (x : Int) (u : Int) (up : Bool) : (wpF ⟨40, tyT, [(24, rightC), (41, checkC)], false, 0, [], false⟩ (noAnn) [] Tryd.f30 (em_mquant (x, u, up)) (.tup [.int .i64 (quV x u up), .int .i64 (quE x u up)])) = ((Ob (((2 : Nat) ≤ (9000000000000000000 : Nat))) ∧ ((((!rightL [SV.int IntKind.i64 x, SV.int IntKind.i64 u]) = true) → (((0 : Int) = quV x u up) ∧ (((10 : Int) = quE x u up) ∧ (True)))) ∧ (((!rightL [SV.int IntKind.i64 x, SV.int IntKind.i64 u]) = false) → (((decide (u ≤ (0 : Int)) = true) → (((0 : Int) = quV x u up) ∧ (((1 : Int) = quE x u up) ∧ (True)))) ∧ ((decide (u ≤ (0 : Int)) = false) → (Ob ((u ≠ (0 : Int))) ∧ (((decide (x.tmod u < (0 : Int)) = true) → (((up = true) → (((decide ((0 : Int) < IntKind.i64.wrap (x.tmod u + u)) = true) → ((chkV (IntKind.i64.wrap (IntKind.i64.wrap (x - IntKind.i64.wrap (x.tmod u + u)) + u)) = quV x u up) ∧ ((chkE (rightB (IntKind.i64.wrap (IntKind.i64.wrap (x - IntKind.i64.wrap (x.tmod u + u)) + u))) = quE x u up) ∧ (True)))) ∧ ((decide ((0 : Int) < IntKind.i64.wrap (x.tmod u + u)) = false) → ((chkV (IntKind.i64.wrap (x - IntKind.i64.wrap (x.tmod u + u))) = quV x u up) ∧ ((chkE (rightB (IntKind.i64.wrap (x - IntKind.i64.wrap (x.tmod u + u)))) = quE x u up) ∧ (True)))))) ∧ ((up = false) → ((chkV (IntKind.i64.wrap (x - IntKind.i64.wrap (x.tmod u + u))) = quV x u up) ∧ ((chkE (rightB (IntKind.i64.wrap (x - IntKind.i64.wrap (x.tmod u + u)))) = quE x u up) ∧ (True)))))) ∧ ((decide (x.tmod u < (0 : Int)) = false) → (((up = true) → (((decide ((0 : Int) < x.tmod u) = true) → ((chkV (IntKind.i64.wrap (IntKind.i64.wrap (x - x.tmod u) + u)) = quV x u up) ∧ ((chkE (rightB (IntKind.i64.wrap (IntKind.i64.wrap (x - x.tmod u) + u))) = quE x u up) ∧ (True)))) ∧ ((decide ((0 : Int) < x.tmod u) = false) → ((chkV (IntKind.i64.wrap (x - x.tmod u)) = quV x u up) ∧ ((chkE (rightB (IntKind.i64.wrap (x - x.tmod u))) = quE x u up) ∧ (True)))))) ∧ ((up = false) → ((chkV (IntKind.i64.wrap (x - x.tmod u)) = quV x u up) ∧ ((chkE (rightB (IntKind.i64.wrap (x - x.tmod u))) = quE x u up) ∧ (True)))))))))))))) := by kernel_rfl
def sh_mparts : List SV → Option (Int × Int)
  | [.int .i64 x, .int .i64 e] => some (x, e)
  | _ => none
def em_mparts : Int × Int → List SV := fun (x, e) => [.int .i64 x, .int .i64 e]
theorem sh_mparts_le : ∀ us a, sh_mparts us = some a → leL us (em_mparts a) := by
  intro us a h
  unfold sh_mparts at h
  split at h
  · cases h; exact (.cons (.refl _) (.cons (.refl _) .nil))
  · cases h
def mpartsC : Con := conOf sh_mparts (fun (x, e) => some (Ob (in64 x ∧ in64 e))) (fun (x, e) => .tup [.sl [.int .i64] (paL x e), .int .i64 (paE x e)])
set_option maxRecDepth 100000 in
theorem vc_mparts (x : Int) (e : Int) : (wpF ⟨48, tyT, [(24, rightC)], false, 0, [], false⟩ ((pa_an x e)) [] Tryd.f31 (em_mparts (x, e)) (.tup [.sl [.int .i64] (paL x e), .int .i64 (paE x e)])) = ((Ob (((2 : Nat) ≤ (9000000000000000000 : Nat))) ∧ ((((!rightL [SV.int IntKind.i64 x, SV.int IntKind.i64 e]) = true) → ((paL x e = []) ∧ (((10 : Int) = paE x e) ∧ (True)))) ∧ (((!rightL [SV.int IntKind.i64 x, SV.int IntKind.i64 e]) = false) → (((decide (x < (0 : Int)) = true) → ((paL x e = []) ∧ (((1 : Int) = paE x e) ∧ (True)))) ∧ ((decide (x < (0 : Int)) = false) → (((decide (e ≤ (0 : Int)) = true) → ((paL x e = []) ∧ (((1 : Int) = paE x e) ∧ (True)))) ∧ ((decide (e ≤ (0 : Int)) = false) → ((Ob ((e ≠ (0 : Int))) ∧ (((decide ((64 : Int) < IntKind.i64.wrap (x.tdiv e)) = true) → ((paL x e = []) ∧ (((2 : Int) = paE x e) ∧ (True)))) ∧ ((decide ((64 : Int) < IntKind.i64.wrap (x.tdiv e)) = false) → (Ob ((e ≠ (0 : Int))) ∧ (((decide (IntKind.i64.wrap (x.tdiv e) = (64 : Int)) = true) → (Ob ((e ≠ (0 : Int))) ∧ (((decide ((0 : Int) < x.tmod e) = true) → ((paL x e = []) ∧ (((2 : Int) = paE x e) ∧ (True)))) ∧ ((decide ((0 : Int) < x.tmod e) = false) → (∃ (x1 : Unit), ((x = x) ∧ ((e = e) ∧ (((rightB x = true) ∧ (((0 : Int) ≤ x) ∧ ((x ≤ (64 : Int) * e) ∧ (((0 : Int) < e) ∧ (rightB e = true))))) ∧ ((True) ∧ (True)))))))))) ∧ ((decide (IntKind.i64.wrap (x.tdiv e) = (64 : Int)) = false) → (∃ (x2 : Unit), ((x = x) ∧ ((e = e) ∧ (((rightB x = true) ∧ (((0 : Int) ≤ x) ∧ ((x ≤ (64 : Int) * e) ∧ (((0 : Int) < e) ∧ (rightB e = true))))) ∧ ((True) ∧ (True)))))))))))) ∧ (∀ (x3 : Unit), (((rightB x = true) ∧ (((0 : Int) ≤ x) ∧ ((x ≤ (64 : Int) * e) ∧ (((0 : Int) < e) ∧ (rightB e = true))))) → ((∃ (x4 : Nat), ((x = max (0 : Int) (x - (↑x4 : Int) * e)) ∧ ((e = e) ∧ (([] = List.map (paA x e) (List.range x4)) ∧ (((x4 ≤ paN x e) ∧ (((0 : Int) ≤ x) ∧ ((x ≤ (64 : Int) * e) ∧ (((0 : Int) < e) ∧ (e ≤ (100000000000 : Int)))))) ∧ ((True) ∧ (True))))))) ∧ (∀ (x5 : Nat), (((x5 ≤ paN x e) ∧ (((0 : Int) ≤ x) ∧ ((x ≤ (64 : Int) * e) ∧ (((0 : Int) < e) ∧ (e ≤ (100000000000 : Int)))))) → (((decide ((0 : Int) < max (0 : Int) (x - (↑x5 : Int) * e)) = true) → (Ob (((((List.map (paA x e) (List.range x5)).length + (1 : Nat)) * (8 : Nat) ≤ (1099511627776 : Nat)) ∧ ((List.map (paA x e) (List.range x5)).length + (1 : Nat) ≤ (1099511627776 : Nat)))) ∧ (∃ (x6 : Nat), ((IntKind.i64.wrap (max (0 : Int) (x - (↑x5 : Int) * e) - minV (max (0 : Int) (x - (↑x5 : Int) * e)) e) = max (0 : Int) (x - (↑x6 : Int) * e)) ∧ ((e = e) ∧ ((List.map (paA x e) (List.range x5) ++ [SV.int IntKind.i64 (minV (max (0 : Int) (x - (↑x5 : Int) * e)) e)] = List.map (paA x e) (List.range x6)) ∧ (((x6 ≤ paN x e) ∧ (((0 : Int) ≤ x) ∧ ((x ≤ (64 : Int) * e) ∧ (((0 : Int) < e) ∧ (e ≤ (100000000000 : Int)))))) ∧ ((paN x e - x6 < paN x e - x5) ∧ (True))))))))) ∧ ((decide ((0 : Int) < max (0 : Int) (x - (↑x5 : Int) * e)) = false) → ((List.map (paA x e) (List.range x5) = paL x e) ∧ (((0 : Int) = paE x e) ∧ (True))))))))))))))))))) := by kernel_rfl
def sh_lunits : List SV → Option (Int × Int × Bool)
  | [.int .i64 x, .int .i64 u, up'] => (match bOf up' with | some up => some (x, u, up) | _ => none)
  | _ => none
def em_lunits : Int × Int × Bool → List SV := fun (x, u, up) => [.int .i64 x, .int .i64 u, .bool up]
theorem sh_lunits_le : ∀ us a, sh_lunits us = some a → leL us (em_lunits a) := by
  intro us a h
  unfold sh_lunits at h
  split at h
  · split at h
    · cases h; exact (.cons (.refl _) (.cons (.refl _) (.cons (.bool (by assumption)) .nil)))
    · cases h
  · cases h
def lunitsC : Con := conOf sh_lunits (fun (x, u, up) => some (Ob (in64 x ∧ in64 u))) (fun (x, u, up) => .bool true)
set_option maxRecDepth 100000 in
theorem vc_lunits (x : Int) (u : Int) (up : Bool) : (wpF ⟨188, tyT, [(12, ccountsC), (30, mquantC), (31, mpartsC), (16, rrightC)], false, 0, [], false⟩ ((units_an x u)) [] Tryd.f10 (em_lunits (x, u, up)) (.bool true)) = (((((!true) = true) → ((true = false) ∧ (True))) ∧ (((!true) = false) → (Ob (((in64 x) ∧ (in64 u))) ∧ (Ob (((in64 x) ∧ (in64 u))) ∧ ((((!rightB x) = true) → (((decide (quE x u up = (10 : Int)) = true) → (((decide (paE x u = (10 : Int)) = true) → (((decide (quV x u up = (0 : Int)) = true) → ((decide ((↑(paL x u).length : Int) = (0 : Int)) = true) ∧ (True))) ∧ ((decide (quV x u up = (0 : Int)) = false) → ((true = false) ∧ (True))))) ∧ ((decide (paE x u = (10 : Int)) = false) → ((true = false) ∧ (True))))) ∧ ((decide (quE x u up = (10 : Int)) = false) → ((true = false) ∧ (True))))) ∧ (((!rightB x) = false) → ((((!rightB u) = true) → (((decide (quE x u up = (10 : Int)) = true) → (((decide (paE x u = (10 : Int)) = true) → (((decide (quV x u up = (0 : Int)) = true) → ((decide ((↑(paL x u).length : Int) = (0 : Int)) = true) ∧ (True))) ∧ ((decide (quV x u up = (0 : Int)) = false) → ((true = false) ∧ (True))))) ∧ ((decide (paE x u = (10 : Int)) = false) → ((true = false) ∧ (True))))) ∧ ((decide (quE x u up = (10 : Int)) = false) → ((true = false) ∧ (True))))) ∧ (((!rightB u) = false) → (((decide (u ≤ (0 : Int)) = true) → (((decide (quE x u up = (1 : Int)) = true) → (((decide (paE x u = (1 : Int)) = true) → (((decide (quV x u up = (0 : Int)) = true) → ((decide ((↑(paL x u).length : Int) = (0 : Int)) = true) ∧ (True))) ∧ ((decide (quV x u up = (0 : Int)) = false) → ((true = false) ∧ (True))))) ∧ ((decide (paE x u = (1 : Int)) = false) → ((true = false) ∧ (True))))) ∧ ((decide (quE x u up = (1 : Int)) = false) → ((true = false) ∧ (True))))) ∧ ((decide (u ≤ (0 : Int)) = false) → (((((!decide (quE x u up = (0 : Int))) = true) → ((((!decide (quE x u up = (10 : Int))) = true) → ((true = false) ∧ (True))) ∧ (((!decide (quE x u up = (10 : Int))) = false) → ((((!decide (quV x u up = (0 : Int))) = true) → ((true = false) ∧ (True))) ∧ (((!decide (quV x u up = (0 : Int))) = false) → (((decide (x ≤ IntKind.i64.wrap ((100000000000 : Int) - u)) = true) → (((decide (IntKind.i64.wrap (u - (100000000000 : Int)) ≤ x) = true) → ((true = false) ∧ (True))) ∧ ((decide (IntKind.i64.wrap (u - (100000000000 : Int)) ≤ x) = false) → (∃ (x1 : Unit), ((x = x) ∧ ((u = u) ∧ ((paL x u = paL x u) ∧ ((paE x u = paE x u) ∧ (((rightB x = true) ∧ ((rightB u = true) ∧ ((0 : Int) < u))) ∧ ((True) ∧ (True))))))))))) ∧ ((decide (x ≤ IntKind.i64.wrap ((100000000000 : Int) - u)) = false) → (∃ (x2 : Unit), ((x = x) ∧ ((u = u) ∧ ((paL x u = paL x u) ∧ ((paE x u = paE x u) ∧ (((rightB x = true) ∧ ((rightB u = true) ∧ ((0 : Int) < u))) ∧ ((True) ∧ (True))))))))))))))) ∧ (((!decide (quE x u up = (0 : Int))) = false) → (Ob ((u ≠ (0 : Int))) ∧ ((((!decide ((quV x u up).tmod u = (0 : Int))) = true) → ((true = false) ∧ (True))) ∧ (((!decide ((quV x u up).tmod u = (0 : Int))) = false) → (((up = true) → (((decide (quV x u up < x) = true) → ((true = false) ∧ (True))) ∧ ((decide (quV x u up < x) = false) → (((decide (u ≤ IntKind.i64.wrap (quV x u up - x)) = true) → ((true = false) ∧ (True))) ∧ ((decide (u ≤ IntKind.i64.wrap (quV x u up - x)) = false) → ((((!up) = true) → (((decide (x < quV x u up) = true) → ((true = false) ∧ (True))) ∧ ((decide (x < quV x u up) = false) → (((decide (u ≤ IntKind.i64.wrap (x - quV x u up)) = true) → ((true = false) ∧ (True))) ∧ ((decide (u ≤ IntKind.i64.wrap (x - quV x u up)) = false) → (∃ (x3 : Unit), ((x = x) ∧ ((u = u) ∧ ((paL x u = paL x u) ∧ ((paE x u = paE x u) ∧ (((rightB x = true) ∧ ((rightB u = true) ∧ ((0 : Int) < u))) ∧ ((True) ∧ (True))))))))))))) ∧ (((!up) = false) → (∃ (x4 : Unit), ((x = x) ∧ ((u = u) ∧ ((paL x u = paL x u) ∧ ((paE x u = paE x u) ∧ (((rightB x = true) ∧ ((rightB u = true) ∧ ((0 : Int) < u))) ∧ ((True) ∧ (True))))))))))))))) ∧ ((up = false) → ((((!up) = true) → (((decide (x < quV x u up) = true) → ((true = false) ∧ (True))) ∧ ((decide (x < quV x u up) = false) → (((decide (u ≤ IntKind.i64.wrap (x - quV x u up)) = true) → ((true = false) ∧ (True))) ∧ ((decide (u ≤ IntKind.i64.wrap (x - quV x u up)) = false) → (∃ (x5 : Unit), ((x = x) ∧ ((u = u) ∧ ((paL x u = paL x u) ∧ ((paE x u = paE x u) ∧ (((rightB x = true) ∧ ((rightB u = true) ∧ ((0 : Int) < u))) ∧ ((True) ∧ (True))))))))))))) ∧ (((!up) = false) → (∃ (x6 : Unit), ((x = x) ∧ ((u = u) ∧ ((paL x u = paL x u) ∧ ((paE x u = paE x u) ∧ (((rightB x = true) ∧ ((rightB u = true) ∧ ((0 : Int) < u))) ∧ ((True) ∧ (True))))))))))))))))) ∧ (∀ (x7 : Unit), (((rightB x = true) ∧ ((rightB u = true) ∧ ((0 : Int) < u))) → (((decide (x < (0 : Int)) = true) → (((decide (paE x u = (1 : Int)) = true) → ((decide ((↑(paL x u).length : Int) = (0 : Int)) = true) ∧ (True))) ∧ ((decide (paE x u = (1 : Int)) = false) → ((true = false) ∧ (True))))) ∧ ((decide (x < (0 : Int)) = false) → ((∃ (x8 : Nat), ((x = x) ∧ ((u = u) ∧ ((paL x u = paL x u) ∧ ((paE x u = paE x u) ∧ (((0 : Int) = min x ((↑x8 : Int) * u)) ∧ ((paL x u = paL x u) ∧ (((↑(paL x u).length : Int) = (↑(paL x u).length : Int)) ∧ (((0 : Int) = (↑x8 : Int)) ∧ (((x8 ≤ (paL x u).length) ∧ ((rightB x = true) ∧ ((rightB u = true) ∧ (((0 : Int) ≤ x) ∧ ((0 : Int) < u))))) ∧ ((True) ∧ (True)))))))))))) ∧ (∀ (x9 : Nat), (((x9 ≤ (paL x u).length) ∧ ((rightB x = true) ∧ ((rightB u = true) ∧ (((0 : Int) ≤ x) ∧ ((0 : Int) < u))))) → (((decide ((↑x9 : Int) < (↑(paL x u).length : Int)) = true) → (Ob ((((0 : Int) ≤ (↑x9 : Int)) ∧ ((↑x9 : Int) < (↑(paL x u).length : Int)))) ∧ (((decide ((elCell (paL x u) x9 (0 : Nat)).toInt ≤ (0 : Int)) = true) → ((true = false) ∧ (True))) ∧ ((decide ((elCell (paL x u) x9 (0 : Nat)).toInt ≤ (0 : Int)) = false) → (((decide (u < (elCell (paL x u) x9 (0 : Nat)).toInt) = true) → ((true = false) ∧ (True))) ∧ ((decide (u < (elCell (paL x u) x9 (0 : Nat)).toInt) = false) → (((decide (IntKind.i64.wrap ((↑x9 : Int) + (1 : Int)) < (↑(paL x u).length : Int)) = true) → ((((!decide ((elCell (paL x u) x9 (0 : Nat)).toInt = u)) = true) → ((true = false) ∧ (True))) ∧ (((!decide ((elCell (paL x u) x9 (0 : Nat)).toInt = u)) = false) → (∃ (x10 : Nat), ((x = x) ∧ ((u = u) ∧ ((paL x u = paL x u) ∧ ((paE x u = paE x u) ∧ ((IntKind.i64.wrap (min x ((↑x9 : Int) * u) + (elCell (paL x u) x9 (0 : Nat)).toInt) = min x ((↑x10 : Int) * u)) ∧ ((paL x u = paL x u) ∧ (((↑(paL x u).length : Int) = (↑(paL x u).length : Int)) ∧ ((IntKind.i64.wrap ((↑x9 : Int) + (1 : Int)) = (↑x10 : Int)) ∧ (((x10 ≤ (paL x u).length) ∧ ((rightB x = true) ∧ ((rightB u = true) ∧ (((0 : Int) ≤ x) ∧ ((0 : Int) < u))))) ∧ (((paL x u).length - x10 < (paL x u).length - x9) ∧ (True))))))))))))))) ∧ ((decide (IntKind.i64.wrap ((↑x9 : Int) + (1 : Int)) < (↑(paL x u).length : Int)) = false) → (∃ (x11 : Nat), ((x = x) ∧ ((u = u) ∧ ((paL x u = paL x u) ∧ ((paE x u = paE x u) ∧ ((IntKind.i64.wrap (min x ((↑x9 : Int) * u) + (elCell (paL x u) x9 (0 : Nat)).toInt) = min x ((↑x11 : Int) * u)) ∧ ((paL x u = paL x u) ∧ (((↑(paL x u).length : Int) = (↑(paL x u).length : Int)) ∧ ((IntKind.i64.wrap ((↑x9 : Int) + (1 : Int)) = (↑x11 : Int)) ∧ (((x11 ≤ (paL x u).length) ∧ ((rightB x = true) ∧ ((rightB u = true) ∧ (((0 : Int) ≤ x) ∧ ((0 : Int) < u))))) ∧ (((paL x u).length - x11 < (paL x u).length - x9) ∧ (True)))))))))))))))))))) ∧ ((decide ((↑x9 : Int) < (↑(paL x u).length : Int)) = false) → ((((!decide (paE x u = (0 : Int))) = true) → (((decide (paE x u = (2 : Int)) = true) → (((decide ((↑(paL x u).length : Int) = (0 : Int)) = true) → ((decide (IntKind.i64.wrap ((64 : Int) * u) < x) = true) ∧ (True))) ∧ ((decide ((↑(paL x u).length : Int) = (0 : Int)) = false) → ((true = false) ∧ (True))))) ∧ ((decide (paE x u = (2 : Int)) = false) → ((true = false) ∧ (True))))) ∧ (((!decide (paE x u = (0 : Int))) = false) → (((decide (min x ((↑x9 : Int) * u) = x) = true) → ((decide ((↑(paL x u).length : Int) ≤ (64 : Int)) = true) ∧ (True))) ∧ ((decide (min x ((↑x9 : Int) * u) = x) = false) → ((true = false) ∧ (True))))))))))))))))))))))))))) := by kernel_rfl
theorem tmod_neg {x u : Int} (hu : 0 < u) : x.tmod u = if 0 ≤ x ∨ x % u = 0 then x % u else x % u - u := by
  have hdvd : u ∣ x ↔ x % u = 0 := Int.dvd_iff_emod_eq_zero
  rw [Int.tmod_eq_emod]
  simp only [hdvd]
  by_cases h : 0 ≤ x ∨ x % u = 0
  · rw [if_pos h, if_pos h]; omega
  · rw [if_neg h, if_neg h]; omega

theorem mquant_known : Known Tryd.prog 30 mquantC := by
  refine known1 (nt := 40) (An := fun (x, u, up) => noAnn) (labs := []) (lit := false) (em := em_mquant) sh_mquant_le (by kernel_rfl) mixedT tyT_ok (.cons right_known (.cons check_known .nil)) Tryd.func30 (by kernel_rfl) (fun a => by obtain ⟨x, u, up⟩ := a; kernel_rfl) (fun a => by obtain ⟨x, u, up⟩ := a; rfl) (fun a ha => ?_)
  obtain ⟨x, u, up⟩ := a
  replace ha : in64 x ∧ in64 u := ha.out
  refine ⟨_, vc_mquant x u up, ?_⟩
  have e : rightL [.int .i64 x, .int .i64 u] = (rightB x && rightB u) := by simp [rightL, ints, elCell, SV.cells, SV.toInt]
  rw [e]
  simp only [Int.reduceLE, Int.reduceLT, Int.reduceEq, Int.reduceNe, Nat.reduceLeDiff, Nat.reduceEqDiff, beq_eq_false_iff_ne, beq_iff_eq, decide_eq_decide, ne_eq, eq_self, true_and, and_true, and_self, and_false, false_and, Bool.not_true, Bool.not_false, Bool.false_eq_true, Bool.true_eq_false, false_implies, true_implies, implies_true, imp_false, not_true, not_false_eq_true, decide_eq_true_eq, decide_eq_false_iff_not, Bool.not_eq_true', Bool.not_eq_false', Bool.and_eq_true, Classical.not_not, decide_true, decide_false, Bool.and_true, Bool.true_and, if_true, if_false, Ob_iff]
  refine ⟨fun h => ?_, fun ⟨h1, h2⟩ => ⟨fun h3 => ?_, fun h3 => ⟨by omega, ?_⟩⟩⟩
  · have hn : ¬ (rightB x = true ∧ rightB u = true) := by rintro ⟨a, b⟩; rw [a, b] at h; cases h
    have hE : quE x u up = 10 := by unfold quE; rw [if_neg hn]
    exact ⟨by unfold quV; rw [hE]; rfl, hE.symm⟩
  · have hE : quE x u up = 1 := by unfold quE; rw [if_pos ⟨h1, h2⟩, if_pos h3]
    exact ⟨by unfold quV; rw [hE]; rfl, hE.symm⟩
  · have b1 := rightB_iff.1 h1
    have b2 := rightB_iff.1 h2
    have hE : quE x u up = chkE (rightB (quL x u up)) := by unfold quE; rw [if_pos ⟨h1, h2⟩, if_neg h3]
    have hV : quV x u up = chkV (quL x u up) := by
      unfold quV; rw [hE]
      cases hb : rightB (quL x u up) <;> simp [chkE, chkV, hb]
    have hm := Int.emod_nonneg x (b := u) (by omega)
    have hl := Int.emod_lt_of_pos x (b := u) (by omega)
    have ht := tmod_neg (x := x) (u := u) (by omega)
    rw [hE, hV]
    have key : ∀ y, y = quL x u up → chkV y = chkV (quL x u up) ∧ chkE (rightB y) = chkE (rightB (quL x u up)) := fun y hy => by rw [hy]; exact ⟨rfl, rfl⟩
    unfold quL at key ⊢
    generalize x % u = r at *
    refine ⟨fun hn => ?_, fun hn => ?_⟩
    · have hr : x.tmod u = r - u ∧ r ≠ 0 := by split at ht <;> omega
      rw [hr.1, wrapI (n := r - u + u) (by omega)]
      refine ⟨fun hu => ⟨fun h0 => key _ ?_, fun h0 => key _ ?_⟩, fun hu => key _ ?_⟩
      · rw [wrapI (n := x - (r - u + u)) (by omega), wrapI (by omega), if_pos ⟨hu, by omega⟩]; omega
      · omega
      · rw [wrapI (by omega), if_neg (by rw [hu]; simp)]; omega
    · have hr : x.tmod u = r := by split at ht <;> omega
      rw [hr]
      refine ⟨fun hu => ⟨fun h0 => key _ ?_, fun h0 => key _ ?_⟩, fun hu => key _ ?_⟩
      · rw [wrapI (n := x - r) (by omega), wrapI (by omega), if_pos ⟨hu, h0⟩]
      · rw [wrapI (by omega), if_neg (by omega)]; omega
      · rw [wrapI (by omega), if_neg (by rw [hu]; simp)]; omega

theorem paN_lt {x e : Int} (hx : 0 ≤ x) (he : 0 < e) (i : Nat) : (i < paN x e ↔ 0 < x - i * e) := by
  unfold paN
  have h1 : (i : Int) < (x + e - 1) / e ↔ (i : Int) * e < x := by
    constructor
    · intro h
      have h2 : ((i : Int) + 1) * e ≤ x + e - 1 := by
        have := (Int.le_ediv_iff_mul_le he).1 (show (i : Int) + 1 ≤ (x + e - 1) / e by omega)
        exact this
      rw [Int.add_mul, Int.one_mul] at h2; omega
    · intro h
      have : (i : Int) + 1 ≤ (x + e - 1) / e := (Int.le_ediv_iff_mul_le he).2 (by rw [Int.add_mul, Int.one_mul]; omega)
      omega
  have h0 : 0 ≤ (x + e - 1) / e := Int.ediv_nonneg (by omega) (by omega)
  constructor
  · intro h; have := h1.1 (by omega); omega
  · intro h; have := h1.2 (by omega); omega
theorem paN_le {x e : Int} (hx : 0 ≤ x) (he : 0 < e) (h : x ≤ 64 * e) : paN x e ≤ 64 := by
  rcases Nat.lt_or_ge 64 (paN x e) with h1 | h1
  · have := (paN_lt hx he 64).1 h1; omega
  · exact h1

theorem pa_no {x e : Int} {E : Int} (hE : paE x e = E) (h : E ≠ 0) : paL x e = [] ∧ E = paE x e := ⟨by unfold paL; rw [if_neg (by rw [hE]; exact h)], hE.symm⟩
theorem tdiv_64 {x e : Int} (hx : 0 ≤ x) (he : 0 < e) : x.tdiv e = x / e ∧ x.tmod e = x % e ∧ 0 ≤ x / e ∧ x / e ≤ x ∧ (x / e < 64 ∨ x / e = 64 ∧ x % e = 0 ↔ x ≤ 64 * e) := by
  have h1 := Int.emod_nonneg x (b := e) (by omega)
  have h2 := Int.emod_lt_of_pos x (b := e) he
  have h3 := Int.mul_ediv_add_emod x e
  have h4 : 0 ≤ x / e := Int.ediv_nonneg hx (by omega)
  have h5 : x / e ≤ x := Int.ediv_le_self _ hx
  refine ⟨Int.tdiv_eq_ediv_of_nonneg hx, Int.tmod_eq_emod_of_nonneg hx, h4, h5, ?_⟩
  constructor
  · rintro (h | ⟨h, h'⟩)
    · have : e * (x / e) ≤ e * 63 := Int.mul_le_mul_of_nonneg_left (by omega) (by omega)
      omega
    · rw [h] at h3; omega
  · intro h
    rcases Int.lt_trichotomy (x / e) 64 with h6 | h6 | h6
    · exact .inl h6
    · rw [h6] at h3; exact .inr ⟨h6, by omega⟩
    · have : e * 65 ≤ e * (x / e) := Int.mul_le_mul_of_nonneg_left (by omega) (by omega)
      omega

theorem mparts_known : Known Tryd.prog 31 mpartsC := by
  refine known1 (nt := 48) (An := fun (x, e) => (pa_an x e)) (labs := []) (lit := false) (em := em_mparts) sh_mparts_le (by kernel_rfl) mixedT tyT_ok (.cons right_known .nil) Tryd.func31 (by kernel_rfl) (fun a => by obtain ⟨x, e⟩ := a; kernel_rfl) (fun a => by obtain ⟨x, e⟩ := a; rfl) (fun a ha => ?_)
  obtain ⟨x, e⟩ := a
  replace ha : in64 x ∧ in64 e := ha.out
  refine ⟨_, vc_mparts x e, ?_⟩
  have e1 : rightL [.int .i64 x, .int .i64 e] = (rightB x && rightB e) := by simp [rightL, ints, elCell, SV.cells, SV.toInt]
  rw [e1]
  simp only [Int.reduceLE, Int.reduceLT, Int.reduceEq, Int.reduceNe, Nat.reduceLeDiff, Nat.reduceEqDiff, beq_eq_false_iff_ne, beq_iff_eq, decide_eq_decide, ne_eq, eq_self, true_and, and_true, and_self, and_false, false_and, Bool.not_true, Bool.not_false, Bool.false_eq_true, Bool.true_eq_false, false_implies, true_implies, implies_true, imp_false, not_true, not_false_eq_true, decide_eq_true_eq, decide_eq_false_iff_not, Bool.not_eq_true', Bool.not_eq_false', Bool.and_eq_true, Classical.not_not, decide_true, decide_false, Bool.and_true, Bool.true_and, if_true, if_false, Ob_iff]
  refine ⟨fun h => ?_, fun ⟨h1, h2⟩ => ⟨fun h3 => ?_, fun h3 => ⟨fun h4 => ?_, fun h4 => ?_⟩⟩⟩
  · have hn : ¬ (rightB x = true ∧ rightB e = true) := by rintro ⟨a, b⟩; rw [a, b] at h; cases h
    exact pa_no (E := 10) (by unfold paE; rw [if_neg hn]) (by decide)
  · exact pa_no (E := 1) (by unfold paE; rw [if_pos ⟨h1, h2⟩, if_pos (.inl h3)]) (by decide)
  · exact pa_no (E := 1) (by unfold paE; rw [if_pos ⟨h1, h2⟩, if_pos (.inr h4)]) (by decide)
  · have b1 := rightB_iff.1 h1
    have b2 := rightB_iff.1 h2
    have hx : 0 ≤ x := by omega
    have he : 0 < e := by omega
    obtain ⟨d1, d2, d3, d4, d5⟩ := tdiv_64 hx he
    rw [d1, d2, wrapI (n := x / e) (by omega)]
    have hm := Int.emod_nonneg x (b := e) (by omega)
    have hE : paE x e = if x ≤ 64 * e then 0 else 2 := by unfold paE; rw [if_pos ⟨h1, h2⟩, if_neg (by omega)]
    have no : ¬ x ≤ 64 * e → paL x e = [] ∧ 2 = paE x e := fun h => pa_no (E := 2) (by rw [hE, if_neg h]) (by decide)
    have F : x ≤ 64 * e → rightB x = true ∧ 0 ≤ x ∧ x ≤ 64 * e ∧ 0 < e ∧ rightB e = true := fun h => ⟨h1, hx, h, he, h2⟩
    have noc : ∀ {p : Prop}, (¬ (x / e < 64 ∨ x / e = 64 ∧ x % e = 0)) → ¬ x ≤ 64 * e := fun h hc => h (d5.2 hc)
    generalize hq : x / e = q at *
    generalize hr : x % e = r at *
    refine ⟨⟨by omega, fun h => no (noc (p := True) (by omega)), fun h => ⟨by omega, fun h5 => ⟨by omega, fun h6 => no (noc (p := True) (by omega)), fun h6 => ⟨(), F (d5.1 (by omega))⟩⟩, fun h5 => ⟨(), F (d5.1 (by omega))⟩⟩⟩, fun _ hh => ?_⟩
    have hle := hh.2.2.1
    have hE0 : paE x e = 0 := by rw [hE, if_pos hle]
    have hN := paN_le hx he hle
    refine ⟨⟨0, by simp; omega, rfl, by omega, hx, hle, he, by omega⟩, fun i hi => ⟨fun h5 => ?_, fun h5 => ?_⟩⟩
    · have hlt : 0 < x - i * e := by omega
      have hin := (paN_lt hx he i).2 hlt
      have e2 : max 0 (x - (i : Int) * e) = x - i * e := by omega
      have e3 : ((i + 1 : Nat) : Int) * e = i * e + e := by rw [Int.natCast_add, Int.add_mul]; omega
      have hie : 0 ≤ (i : Int) * e := Int.mul_nonneg (by omega) (by omega)
      rw [e2]
      have hmin : minV (x - i * e) e = min e (x - i * e) := by unfold minV; split <;> omega
      refine ⟨⟨by simp; omega, by simp; omega⟩, i + 1, ?_, ?_, ⟨by omega, hx, hle, he, by omega⟩, by omega⟩
      · rw [e3, hmin, wrapI (by omega)]; omega
      · rw [List.range_succ, List.map_append, hmin]; rfl
    · have hlt : ¬ i < paN x e := fun hc => by have := (paN_lt hx he i).1 hc; omega
      have : i = paN x e := by omega
      subst this
      exact ⟨by unfold paL; rw [if_pos hE0], hE0.symm⟩

theorem pa_get {x e : Int} {i : Nat} (hE : paE x e = 0) (h : i < paN x e) : (elCell (paL x e) i 0).toInt = min e (x - i * e) := by
  have e1 : (paL x e).getD i .any = paA x e i := by
    unfold paL
    rw [if_pos hE, List.getD_eq_getElem?_getD, List.getElem?_map, List.getElem?_range h]
    rfl
  unfold elCell
  rw [e1]; rfl
theorem pa_len {x e : Int} (hE : paE x e = 0) : (paL x e).length = paN x e := by unfold paL; rw [if_pos hE]; simp

theorem qu_no {x u : Int} {up : Bool} (h : ¬ (rightB x = true ∧ rightB u = true)) : quE x u up = 10 ∧ quV x u up = 0 ∧ paE x u = 10 ∧ paL x u = [] := by
  have h1 : quE x u up = 10 := by unfold quE; rw [if_neg h]
  have h2 : paE x u = 10 := by unfold paE; rw [if_neg h]
  exact ⟨h1, by unfold quV; rw [h1]; rfl, h2, (pa_no h2 (by decide)).1⟩

theorem lunits_known : Known Tryd.prog 10 lunitsC := by
  refine known1 (nt := 188) (An := fun (x, u, up) => (units_an x u)) (labs := []) (lit := false) (em := em_lunits) sh_lunits_le (by kernel_rfl) mixedT tyT_ok (.cons ccounts_known (.cons mquant_known (.cons mparts_known (.cons rright_known .nil)))) Tryd.func10 (by kernel_rfl) (fun a => by obtain ⟨x, u, up⟩ := a; kernel_rfl) (fun a => by obtain ⟨x, u, up⟩ := a; rfl) (fun a ha => ?_)
  obtain ⟨x, u, up⟩ := a
  replace ha : in64 x ∧ in64 u := ha.out
  refine ⟨_, vc_lunits x u up, ?_⟩
  simp only [Int.reduceLE, Int.reduceLT, Int.reduceEq, Int.reduceNe, Nat.reduceLeDiff, Nat.reduceEqDiff, beq_eq_false_iff_ne, beq_iff_eq, decide_eq_decide, ne_eq, eq_self, true_and, and_true, and_self, and_false, false_and, Bool.not_true, Bool.not_false, Bool.false_eq_true, Bool.true_eq_false, false_implies, true_implies, implies_true, imp_false, not_true, not_false_eq_true, decide_eq_true_eq, decide_eq_false_iff_not, Bool.not_eq_true', Bool.not_eq_false', Bool.and_eq_true, Classical.not_not, decide_true, decide_false, Bool.and_true, Bool.true_and, if_true, if_false, Ob_iff]
  refine ⟨ha, ha, fun h => ?_, fun hx => ⟨fun h => ?_, fun hu => ⟨fun h => ?_, fun h0 => ?_⟩⟩⟩
  · obtain ⟨a1, a2, a3, a4⟩ := qu_no (x := x) (u := u) (up := up) (fun hc => by rw [hc.1] at h; cases h)
    rw [a1, a2, a3, a4]; simp
  · obtain ⟨a1, a2, a3, a4⟩ := qu_no (x := x) (u := u) (up := up) (fun hc => by rw [hc.2] at h; cases h)
    rw [a1, a2, a3, a4]; simp
  · have a1 : quE x u up = 1 := by unfold quE; rw [if_pos ⟨hx, hu⟩, if_pos h]
    have a2 : paE x u = 1 := by unfold paE; rw [if_pos ⟨hx, hu⟩, if_pos (.inr h)]
    have a3 : quV x u up = 0 := by unfold quV; rw [a1]; rfl
    rw [a1, a2, a3, (pa_no a2 (by decide)).1]; simp
  · have b1 := rightB_iff.1 hx
    have b2 := rightB_iff.1 hu
    have u0 : 0 < u := by omega
    have hJ : rightB x = true ∧ rightB u = true ∧ 0 < u := ⟨hx, hu, u0⟩
    have hm := Int.emod_nonneg x (b := u) (by omega)
    have hl := Int.emod_lt_of_pos x (b := u) u0
    have hE : quE x u up = chkE (rightB (quL x u up)) := by unfold quE; rw [if_pos ⟨hx, hu⟩, if_neg h0]
    refine ⟨⟨fun h1 => ?_, fun h1 => ?_⟩, fun _ _ => ?_⟩
    · have hb : rightB (quL x u up) = false := by
        cases hb : rightB (quL x u up) with
        | false => rfl
        | true => rw [hE, hb] at h1; exact absurd rfl h1
      have h10 : quE x u up = 10 := by rw [hE, hb]; rfl
      have hv : quV x u up = 0 := by unfold quV; rw [h10]; rfl
      refine ⟨h10, fun _ => ⟨hv, fun _ => ?_⟩⟩
      rw [wrapI (n := 100000000000 - u) (by omega), wrapI (n := u - 100000000000) (by omega)]
      refine ⟨fun h2 => ⟨fun h3 => ?_, fun _ => ⟨(), hJ⟩⟩, fun _ => ⟨(), hJ⟩⟩
      have hb' := rightB_no.1 hb
      apply hb'
      unfold quL
      generalize x % u = r at *
      split <;> omega
    · have hb : rightB (quL x u up) = true := by
        cases hb : rightB (quL x u up) with
        | true => rfl
        | false => rw [hE, hb] at h1; cases h1
      have hv : quV x u up = quL x u up := by unfold quV; rw [if_pos h1]
      have hdv : u ∣ quL x u up := by
        unfold quL
        have e1 : u ∣ x - x % u := Int.dvd_self_sub_emod
        split
        · exact Int.dvd_add e1 (Int.dvd_refl u)
        · rw [Int.add_zero]; exact e1
      have ht : (quL x u up).tmod u = 0 := Int.tmod_eq_zero_of_dvd hdv
      have bL := rightB_iff.1 hb
      rw [hv]
      have hL : quL x u up = x - x % u + (if up = true ∧ 0 < x % u then u else 0) := rfl
      generalize quL x u up = q at *
      generalize x % u = r at *
      rw [wrapI (n := q - x) (by omega), wrapI (n := x - q) (by omega)]
      refine ⟨by omega, ht, fun _ => ⟨fun hup => ?_, fun hup => ?_⟩⟩
      · have hq : q = x - r + (if 0 < r then u else 0) := by rw [hL, hup]; simp
        refine ⟨by split at hq <;> omega, fun _ => ⟨by split at hq <;> omega, fun _ => ⟨fun hc => (by rw [hup] at hc; cases hc), fun _ => ⟨(), hJ⟩⟩⟩⟩
      · have hq : q = x - r := by rw [hL, hup]; simp
        refine ⟨fun _ => ⟨by omega, fun _ => ⟨by omega, fun _ => ⟨(), hJ⟩⟩⟩, fun hc => (by rw [hup] at hc; cases hc)⟩
    · refine ⟨fun hn => ?_, fun hn => ?_⟩
      · have a2 : paE x u = 1 := by unfold paE; rw [if_pos ⟨hx, hu⟩, if_pos (.inl hn)]
        rw [a2, (pa_no a2 (by decide)).1]; simp
      · have x0 : 0 ≤ x := by omega
        have hP : paE x u = if x ≤ 64 * u then 0 else 2 := by unfold paE; rw [if_pos ⟨hx, hu⟩, if_neg (by omega)]
        refine ⟨⟨0, by simp; omega, rfl, Nat.zero_le _, hx, hu, x0, u0⟩, fun i hi => ⟨fun hlt => ?_, fun hge => ?_⟩⟩
        · by_cases h64 : x ≤ 64 * u
          · rw [if_pos h64] at hP
            have hlen := pa_len hP
            rw [hlen] at hlt ⊢
            have hil : i < paN x u := by omega
            have hN := paN_le x0 u0 h64
            have hp := (paN_lt x0 u0 i).1 hil
            have hg := pa_get hP hil
            have e3 : ((i + 1 : Nat) : Int) * u = i * u + u := by rw [Int.natCast_add, Int.add_mul]; omega
            have hp1 := paN_lt x0 u0 (i + 1)
            rw [e3] at hp1
            have hiu : 0 ≤ (i : Int) * u := Int.mul_nonneg (by omega) (by omega)
            rw [hg, wrapI (n := (i : Int) + 1) (by omega)]
            have hnext : ∃ x10 : Nat, IntKind.i64.wrap (min x (↑i * u) + min u (x - ↑i * u)) = min x (↑x10 * u) ∧ (i : Int) + 1 = ↑x10 ∧ (x10 ≤ paN x u ∧ rightB x = true ∧ rightB u = true ∧ 0 ≤ x ∧ 0 < u) ∧ paN x u - x10 < paN x u - i := by
              refine ⟨i + 1, ?_, by omega, ⟨by omega, hx, hu, x0, u0⟩, by omega⟩
              rw [e3, wrapI (by omega)]; omega
            refine ⟨by omega, by omega, fun _ => ⟨by omega, fun _ => ⟨fun h5 => ⟨?_, fun _ => hnext⟩, fun _ => hnext⟩⟩⟩
            have := hp1.1 (by omega)
            omega
          · rw [if_neg h64] at hP
            have := (pa_no hP (by decide)).1
            rw [this] at hlt
            simp at hlt; omega
        · rw [wrapI (n := 64 * u) (by omega)]
          by_cases h64 : x ≤ 64 * u
          · rw [if_pos h64] at hP
            have hlen := pa_len hP
            rw [hlen] at hge hi ⊢
            have hN := paN_le x0 u0 h64
            have : i = paN x u := by omega
            subst this
            have hp : ¬ 0 < x - (paN x u : Int) * u := fun hc => by have := (paN_lt x0 u0 (paN x u)).2 hc; omega
            refine ⟨fun hc => absurd hP hc, fun _ => ⟨fun _ => by omega, by omega⟩⟩
          · rw [if_neg h64] at hP
            have := (pa_no hP (by decide)).1
            rw [this]
            refine ⟨fun _ => ⟨fun _ => ⟨fun _ => by omega, by simp⟩, hP⟩, fun hc => (by rw [hP] at hc; cases hc)⟩

end Go.Rx
