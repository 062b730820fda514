/- The document's own way to spread an amount, gone through. -/
import Derived.Test.YtgcleepiopmabaaDoorPg
namespace Go.Rx
open Go.Proofs
set_option linter.unusedSimpArgs false
set_option linter.unusedVariables false

def rf_an (x : Int) (W : List SV) : Nat → Option Ann
  | 0 => some ⟨Nat, fun i => ⟨[(0, .int .i64 x), (1, .sl [.int .i64] W), (5, .int .i64 (sumW W i)), (6, .int .i64 i)], []⟩, fun i => i ≤ W.length ∧ rfOK x W, fun i => W.length - i, [0, 1, 5, 6], [], [], fun _ _ => none⟩
  | 4010 => some ⟨Unit, fun _ => ⟨[(0, .int .i64 x), (1, .sl [.int .i64] W), (5, .int .i64 (sumW W W.length)), (7, .osl 29 0), (8, .int .i64 x.natAbs)], [(29, .row 0 2 [.int .i64] (mkR W.length fun _ => 0))]⟩, fun _ => rfOK x W, fun _ => 0, [0, 1, 5, 7, 8], [29], [], fun _ _ => none⟩
  | 2 => some ⟨Nat, fun i => ⟨[(0, .int .i64 x), (1, .sl [.int .i64] W), (5, .int .i64 (sumW W W.length)), (7, .osl 29 0), (8, .int .i64 x.natAbs), (9, .int .i64 ((x.natAbs : Int) - sumQ x.natAbs (sumW W W.length) W i)), (10, .int .i64 i)],
      [(29, .row 0 2 [.int .i64] (mkR W.length fun q => if q < i then rqF x.natAbs (sumW W W.length) W q else 0))]⟩, fun i => i ≤ W.length ∧ rfOK x W, fun i => W.length - i, [0, 1, 5, 7, 8, 9, 10], [29], [], fun _ _ => none⟩
  | 4 => some ⟨Nat, fun k => ⟨[(0, .int .i64 x), (1, .sl [.int .i64] W), (5, .int .i64 (sumW W W.length)), (7, .osl 29 0), (8, .int .i64 x.natAbs), (9, .int .i64 (left0 x.natAbs (sumW W W.length) W - k)), (11, .osl 61 0)],
      [(29, .row 0 2 [.int .i64] (mkR W.length (oF x.natAbs (sumW W W.length) W k))), (61, .row 0 4 [.bool] (mkB W.length (gvF (rmF x.natAbs (sumW W W.length) W) W.length k)))]⟩, fun k => (k : Int) ≤ left0 x.natAbs (sumW W W.length) W ∧ rfOK x W, fun k => (left0 x.natAbs (sumW W W.length) W - k).toNat, [0, 1, 5, 7, 8, 9, 11], [29, 61], [], fun k b => match b with
      | 6 => some ⟨Nat, fun t => ⟨[(0, .int .i64 x), (1, .sl [.int .i64] W), (5, .int .i64 (sumW W W.length)), (7, .osl 29 0), (8, .int .i64 x.natAbs), (9, .int .i64 (left0 x.natAbs (sumW W W.length) W - k)), (11, .osl 61 0), (12, .int .i64 (scn (rmF x.natAbs (sumW W W.length) W) (gvF (rmF x.natAbs (sumW W W.length) W) W.length k) t)), (13, .int .i64 t)],
      [(29, .row 0 2 [.int .i64] (mkR W.length (oF x.natAbs (sumW W W.length) W k))), (61, .row 0 4 [.bool] (mkB W.length (gvF (rmF x.natAbs (sumW W W.length) W) W.length k)))]⟩, fun t => (k : Int) < left0 x.natAbs (sumW W W.length) W ∧ t ≤ W.length ∧ rfOK x W, fun t => W.length - t, [0, 1, 5, 7, 8, 9, 11, 12, 13], [29, 61], [], fun _ _ => none⟩
      | _ => none⟩
  | 8 => some ⟨Nat, fun u => ⟨[(7, .osl 29 0), (14, .int .i64 u)],
      [(29, .row 0 2 [.int .i64] (mkR W.length fun q => if q < u then -oF x.natAbs (sumW W W.length) W (left0 x.natAbs (sumW W W.length) W).toNat q else oF x.natAbs (sumW W W.length) W (left0 x.natAbs (sumW W W.length) W).toNat q))]⟩, fun u => u ≤ W.length ∧ rfOK x W ∧ x < 0, fun u => W.length - u, [7, 14], [29], [], fun _ _ => none⟩
  | _ => none

def sh_rspread : List SV → Option (Int × (List SV))
  | [.int .i64 x, W'] => (match slOf [.int .i64] W' with | some W => some (x, W) | _ => none)
  | _ => none
def em_rspread : Int × (List SV) → List SV := fun (x, W) => [.int .i64 x, .sl [.int .i64] W]
theorem sh_rspread_le : ∀ us a, sh_rspread us = some a → leL us (em_rspread a) := by
  intro us a h
  unfold sh_rspread at h
  split at h
  · split at h
    · cases h; exact (.cons (.refl _) (.cons (.sl (by assumption)) .nil))
    · cases h
  · cases h
def rspreadC : Con := conOf sh_rspread (fun (x, W) => some (Ob (rfOK x W))) (fun (x, W) => .sl [.int .i64] (refL x W))
set_option maxRecDepth 100000 in
theorem vc_rspread (x : Int) (W : List SV) : (wpF ⟨127, tyT, [], false, 0, [], false⟩ ((rf_an x W)) [] Tryd.f21 (em_rspread (x, W)) (.sl [.int .i64] (refL x W))) = ((((∃ (x1 : Nat), ((x = x) ∧ ((W = W) ∧ (((0 : Int) = sumW W x1) ∧ (((0 : Int) = (↑x1 : Int)) ∧ (((x1 ≤ W.length) ∧ (rfOK x W)) ∧ ((True) ∧ (True)))))))) ∧ (∀ (x2 : Nat), (((x2 ≤ W.length) ∧ (rfOK x W)) → (((decide ((↑x2 : Int) < (↑W.length : Int)) = true) → (Ob ((((0 : Int) ≤ (↑x2 : Int)) ∧ ((↑x2 : Int) < (↑W.length : Int)))) ∧ (∃ (x3 : Nat), ((x = x) ∧ ((W = W) ∧ ((IntKind.i64.wrap (sumW W x2 + (elCell W x2 (0 : Nat)).toInt) = sumW W x3) ∧ ((IntKind.i64.wrap ((↑x2 : Int) + (1 : Int)) = (↑x3 : Int)) ∧ (((x3 ≤ W.length) ∧ (rfOK x W)) ∧ ((W.length - x3 < W.length - x2) ∧ (True)))))))))) ∧ ((decide ((↑x2 : Int) < (↑W.length : Int)) = false) → (Ob ((((↑W.length : Int) = (↑W.length : Int)) ∧ (((0 : Int) ≤ (↑W.length : Int)) ∧ (((↑W.length : Int) * (8 : Int) ≤ (1099511627776 : Int)) ∧ ((↑W.length : Int) ≤ (1099511627776 : Int)))))) ∧ (((decide (x < (0 : Int)) = true) → (∃ (x4 : Unit), ((x = x) ∧ ((W = W) ∧ ((sumW W x2 = sumW W W.length) ∧ ((IntKind.i64.wrap ((0 : Int) - x) = (↑x.natAbs : Int)) ∧ ((List.replicate W.length (SV.int IntKind.i64 (0 : Int)) = mkR W.length fun x => (0 : Int)) ∧ ((rfOK x W) ∧ ((True) ∧ (True)))))))))) ∧ ((decide (x < (0 : Int)) = false) → (∃ (x5 : Unit), ((x = x) ∧ ((W = W) ∧ ((sumW W x2 = sumW W W.length) ∧ ((x = (↑x.natAbs : Int)) ∧ ((List.replicate W.length (SV.int IntKind.i64 (0 : Int)) = mkR W.length fun x => (0 : Int)) ∧ ((rfOK x W) ∧ ((True) ∧ (True))))))))))))))))) ∧ (∀ (x6 : Unit), ((rfOK x W) → ((∃ (x7 : Nat), ((x = x) ∧ ((W = W) ∧ ((sumW W W.length = sumW W W.length) ∧ (((↑x.natAbs : Int) = (↑x.natAbs : Int)) ∧ (((↑x.natAbs : Int) = (↑x.natAbs : Int) - sumQ (↑x.natAbs : Int) (sumW W W.length) W x7) ∧ (((0 : Int) = (↑x7 : Int)) ∧ (((mkR W.length fun x => (0 : Int)) = mkR W.length fun q => if q < x7 then rqF (↑x.natAbs : Int) (sumW W W.length) W q else (0 : Int)) ∧ (((x7 ≤ W.length) ∧ (rfOK x W)) ∧ ((True) ∧ (True))))))))))) ∧ (∀ (x8 : Nat), (((x8 ≤ W.length) ∧ (rfOK x W)) → (((decide ((↑x8 : Int) < (↑W.length : Int)) = true) → (Ob ((((0 : Int) ≤ (↑x8 : Int)) ∧ ((↑x8 : Int) < (↑W.length : Int)))) ∧ (Ob ((sumW W W.length ≠ (0 : Int))) ∧ (Ob ((((0 : Int) ≤ (↑x8 : Int)) ∧ ((↑x8 : Int) < (↑(mkR W.length fun q => if q < x8 then rqF (↑x.natAbs : Int) (sumW W W.length) W q else (0 : Int)).length : Int)))) ∧ (Ob ((x8 < (mkR W.length fun q => if q < x8 then rqF (↑x.natAbs : Int) (sumW W W.length) W q else (0 : Int)).length)) ∧ (Ob ((((0 : Int) ≤ (↑x8 : Int)) ∧ ((↑x8 : Int) < (↑((mkR W.length fun q => if q < x8 then rqF (↑x.natAbs : Int) (sumW W W.length) W q else (0 : Int)).set x8 (SV.int IntKind.i64 (IntKind.i64.wrap ((IntKind.i64.wrap ((↑x.natAbs : Int) * (elCell W x8 (0 : Nat)).toInt)).tdiv (sumW W W.length))))).length : Int)))) ∧ (Ob ((x8 < ((mkR W.length fun q => if q < x8 then rqF (↑x.natAbs : Int) (sumW W W.length) W q else (0 : Int)).set x8 (SV.int IntKind.i64 (IntKind.i64.wrap ((IntKind.i64.wrap ((↑x.natAbs : Int) * (elCell W x8 (0 : Nat)).toInt)).tdiv (sumW W W.length))))).length)) ∧ (∃ (x9 : Nat), ((x = x) ∧ ((W = W) ∧ ((sumW W W.length = sumW W W.length) ∧ (((↑x.natAbs : Int) = (↑x.natAbs : Int)) ∧ ((IntKind.i64.wrap ((↑x.natAbs : Int) - sumQ (↑x.natAbs : Int) (sumW W W.length) W x8 - (elCell ((mkR W.length fun q => if q < x8 then rqF (↑x.natAbs : Int) (sumW W W.length) W q else (0 : Int)).set x8 (SV.int IntKind.i64 (IntKind.i64.wrap ((IntKind.i64.wrap ((↑x.natAbs : Int) * (elCell W x8 (0 : Nat)).toInt)).tdiv (sumW W W.length))))) x8 (0 : Nat)).toInt) = (↑x.natAbs : Int) - sumQ (↑x.natAbs : Int) (sumW W W.length) W x9) ∧ ((IntKind.i64.wrap ((↑x8 : Int) + (1 : Int)) = (↑x9 : Int)) ∧ (((mkR W.length fun q => if q < x8 then rqF (↑x.natAbs : Int) (sumW W W.length) W q else (0 : Int)).set x8 (SV.int IntKind.i64 (IntKind.i64.wrap ((IntKind.i64.wrap ((↑x.natAbs : Int) * (elCell W x8 (0 : Nat)).toInt)).tdiv (sumW W W.length)))) = mkR W.length fun q => if q < x9 then rqF (↑x.natAbs : Int) (sumW W W.length) W q else (0 : Int)) ∧ (((x9 ≤ W.length) ∧ (rfOK x W)) ∧ ((W.length - x9 < W.length - x8) ∧ (True)))))))))))))))))) ∧ ((decide ((↑x8 : Int) < (↑W.length : Int)) = false) → (Ob ((((↑W.length : Int) = (↑W.length : Int)) ∧ (((0 : Int) ≤ (↑W.length : Int)) ∧ (((↑W.length : Int) * (1 : Int) ≤ (1099511627776 : Int)) ∧ ((↑W.length : Int) ≤ (1099511627776 : Int)))))) ∧ ((∃ (x10 : Nat), ((x = x) ∧ ((W = W) ∧ ((sumW W W.length = sumW W W.length) ∧ (((↑x.natAbs : Int) = (↑x.natAbs : Int)) ∧ (((↑x.natAbs : Int) - sumQ (↑x.natAbs : Int) (sumW W W.length) W x8 = left0 (↑x.natAbs : Int) (sumW W W.length) W - (↑x10 : Int)) ∧ (((mkR W.length fun q => if q < x8 then rqF (↑x.natAbs : Int) (sumW W W.length) W q else (0 : Int)) = mkR W.length (oF (↑x.natAbs : Int) (sumW W W.length) W x10)) ∧ ((List.replicate W.length SV.ff = mkB W.length (gvF (rmF (↑x.natAbs : Int) (sumW W W.length) W) W.length x10)) ∧ ((((↑x10 : Int) ≤ left0 (↑x.natAbs : Int) (sumW W W.length) W) ∧ (rfOK x W)) ∧ ((True) ∧ (True))))))))))) ∧ (∀ (x11 : Nat), ((((↑x11 : Int) ≤ left0 (↑x.natAbs : Int) (sumW W W.length) W) ∧ (rfOK x W)) → (((decide ((0 : Int) < left0 (↑x.natAbs : Int) (sumW W W.length) W - (↑x11 : Int)) = true) → ((∃ (x12 : Nat), ((x = x) ∧ ((W = W) ∧ ((sumW W W.length = sumW W W.length) ∧ (((↑x.natAbs : Int) = (↑x.natAbs : Int)) ∧ ((left0 (↑x.natAbs : Int) (sumW W W.length) W - (↑x11 : Int) = left0 (↑x.natAbs : Int) (sumW W W.length) W - (↑x11 : Int)) ∧ (((-1 : Int) = scn (rmF (↑x.natAbs : Int) (sumW W W.length) W) (gvF (rmF (↑x.natAbs : Int) (sumW W W.length) W) W.length x11) x12) ∧ (((0 : Int) = (↑x12 : Int)) ∧ ((mkR W.length (oF (↑x.natAbs : Int) (sumW W W.length) W x11) = mkR W.length (oF (↑x.natAbs : Int) (sumW W W.length) W x11)) ∧ ((mkB W.length (gvF (rmF (↑x.natAbs : Int) (sumW W W.length) W) W.length x11) = mkB W.length (gvF (rmF (↑x.natAbs : Int) (sumW W W.length) W) W.length x11)) ∧ ((((↑x11 : Int) < left0 (↑x.natAbs : Int) (sumW W W.length) W) ∧ ((x12 ≤ W.length) ∧ (rfOK x W))) ∧ ((True) ∧ (True))))))))))))) ∧ (∀ (x13 : Nat), ((((↑x11 : Int) < left0 (↑x.natAbs : Int) (sumW W W.length) W) ∧ ((x13 ≤ W.length) ∧ (rfOK x W))) → (((decide ((↑x13 : Int) < (↑W.length : Int)) = true) → (Ob ((((0 : Int) ≤ (↑x13 : Int)) ∧ ((↑x13 : Int) < (↑(mkB W.length (gvF (rmF (↑x.natAbs : Int) (sumW W W.length) W) W.length x11)).length : Int)))) ∧ (Ob ((x13 < (mkB W.length (gvF (rmF (↑x.natAbs : Int) (sumW W W.length) W) W.length x11)).length)) ∧ ((((!(elCell (mkB W.length (gvF (rmF (↑x.natAbs : Int) (sumW W W.length) W) W.length x11)) x13 (0 : Nat)).toBool) = true) → (((decide (scn (rmF (↑x.natAbs : Int) (sumW W W.length) W) (gvF (rmF (↑x.natAbs : Int) (sumW W W.length) W) W.length x11) x13 < (0 : Int)) = true) → (∃ (x14 : Nat), ((x = x) ∧ ((W = W) ∧ ((sumW W W.length = sumW W W.length) ∧ (((↑x.natAbs : Int) = (↑x.natAbs : Int)) ∧ ((left0 (↑x.natAbs : Int) (sumW W W.length) W - (↑x11 : Int) = left0 (↑x.natAbs : Int) (sumW W W.length) W - (↑x11 : Int)) ∧ (((↑x13 : Int) = scn (rmF (↑x.natAbs : Int) (sumW W W.length) W) (gvF (rmF (↑x.natAbs : Int) (sumW W W.length) W) W.length x11) x14) ∧ ((IntKind.i64.wrap ((↑x13 : Int) + (1 : Int)) = (↑x14 : Int)) ∧ ((mkR W.length (oF (↑x.natAbs : Int) (sumW W W.length) W x11) = mkR W.length (oF (↑x.natAbs : Int) (sumW W W.length) W x11)) ∧ ((mkB W.length (gvF (rmF (↑x.natAbs : Int) (sumW W W.length) W) W.length x11) = mkB W.length (gvF (rmF (↑x.natAbs : Int) (sumW W W.length) W) W.length x11)) ∧ ((((↑x11 : Int) < left0 (↑x.natAbs : Int) (sumW W W.length) W) ∧ ((x14 ≤ W.length) ∧ (rfOK x W))) ∧ ((W.length - x14 < W.length - x13) ∧ (True)))))))))))))) ∧ ((decide (scn (rmF (↑x.natAbs : Int) (sumW W W.length) W) (gvF (rmF (↑x.natAbs : Int) (sumW W W.length) W) W.length x11) x13 < (0 : Int)) = false) → (Ob ((((0 : Int) ≤ (↑x13 : Int)) ∧ ((↑x13 : Int) < (↑W.length : Int)))) ∧ (Ob ((sumW W W.length ≠ (0 : Int))) ∧ (Ob ((((0 : Int) ≤ scn (rmF (↑x.natAbs : Int) (sumW W W.length) W) (gvF (rmF (↑x.natAbs : Int) (sumW W W.length) W) W.length x11) x13) ∧ (scn (rmF (↑x.natAbs : Int) (sumW W W.length) W) (gvF (rmF (↑x.natAbs : Int) (sumW W W.length) W) W.length x11) x13 < (↑W.length : Int)))) ∧ (Ob ((sumW W W.length ≠ (0 : Int))) ∧ (((decide ((IntKind.i64.wrap ((↑x.natAbs : Int) * (elCell W (scn (rmF (↑x.natAbs : Int) (sumW W W.length) W) (gvF (rmF (↑x.natAbs : Int) (sumW W W.length) W) W.length x11) x13).toNat (0 : Nat)).toInt)).tmod (sumW W W.length) < (IntKind.i64.wrap ((↑x.natAbs : Int) * (elCell W x13 (0 : Nat)).toInt)).tmod (sumW W W.length)) = true) → (∃ (x15 : Nat), ((x = x) ∧ ((W = W) ∧ ((sumW W W.length = sumW W W.length) ∧ (((↑x.natAbs : Int) = (↑x.natAbs : Int)) ∧ ((left0 (↑x.natAbs : Int) (sumW W W.length) W - (↑x11 : Int) = left0 (↑x.natAbs : Int) (sumW W W.length) W - (↑x11 : Int)) ∧ (((↑x13 : Int) = scn (rmF (↑x.natAbs : Int) (sumW W W.length) W) (gvF (rmF (↑x.natAbs : Int) (sumW W W.length) W) W.length x11) x15) ∧ ((IntKind.i64.wrap ((↑x13 : Int) + (1 : Int)) = (↑x15 : Int)) ∧ ((mkR W.length (oF (↑x.natAbs : Int) (sumW W W.length) W x11) = mkR W.length (oF (↑x.natAbs : Int) (sumW W W.length) W x11)) ∧ ((mkB W.length (gvF (rmF (↑x.natAbs : Int) (sumW W W.length) W) W.length x11) = mkB W.length (gvF (rmF (↑x.natAbs : Int) (sumW W W.length) W) W.length x11)) ∧ ((((↑x11 : Int) < left0 (↑x.natAbs : Int) (sumW W W.length) W) ∧ ((x15 ≤ W.length) ∧ (rfOK x W))) ∧ ((W.length - x15 < W.length - x13) ∧ (True)))))))))))))) ∧ ((decide ((IntKind.i64.wrap ((↑x.natAbs : Int) * (elCell W (scn (rmF (↑x.natAbs : Int) (sumW W W.length) W) (gvF (rmF (↑x.natAbs : Int) (sumW W W.length) W) W.length x11) x13).toNat (0 : Nat)).toInt)).tmod (sumW W W.length) < (IntKind.i64.wrap ((↑x.natAbs : Int) * (elCell W x13 (0 : Nat)).toInt)).tmod (sumW W W.length)) = false) → (∃ (x16 : Nat), ((x = x) ∧ ((W = W) ∧ ((sumW W W.length = sumW W W.length) ∧ (((↑x.natAbs : Int) = (↑x.natAbs : Int)) ∧ ((left0 (↑x.natAbs : Int) (sumW W W.length) W - (↑x11 : Int) = left0 (↑x.natAbs : Int) (sumW W W.length) W - (↑x11 : Int)) ∧ ((scn (rmF (↑x.natAbs : Int) (sumW W W.length) W) (gvF (rmF (↑x.natAbs : Int) (sumW W W.length) W) W.length x11) x13 = scn (rmF (↑x.natAbs : Int) (sumW W W.length) W) (gvF (rmF (↑x.natAbs : Int) (sumW W W.length) W) W.length x11) x16) ∧ ((IntKind.i64.wrap ((↑x13 : Int) + (1 : Int)) = (↑x16 : Int)) ∧ ((mkR W.length (oF (↑x.natAbs : Int) (sumW W W.length) W x11) = mkR W.length (oF (↑x.natAbs : Int) (sumW W W.length) W x11)) ∧ ((mkB W.length (gvF (rmF (↑x.natAbs : Int) (sumW W W.length) W) W.length x11) = mkB W.length (gvF (rmF (↑x.natAbs : Int) (sumW W W.length) W) W.length x11)) ∧ ((((↑x11 : Int) < left0 (↑x.natAbs : Int) (sumW W W.length) W) ∧ ((x16 ≤ W.length) ∧ (rfOK x W))) ∧ ((W.length - x16 < W.length - x13) ∧ (True)))))))))))))))))))))) ∧ (((!(elCell (mkB W.length (gvF (rmF (↑x.natAbs : Int) (sumW W W.length) W) W.length x11)) x13 (0 : Nat)).toBool) = false) → (∃ (x17 : Nat), ((x = x) ∧ ((W = W) ∧ ((sumW W W.length = sumW W W.length) ∧ (((↑x.natAbs : Int) = (↑x.natAbs : Int)) ∧ ((left0 (↑x.natAbs : Int) (sumW W W.length) W - (↑x11 : Int) = left0 (↑x.natAbs : Int) (sumW W W.length) W - (↑x11 : Int)) ∧ ((scn (rmF (↑x.natAbs : Int) (sumW W W.length) W) (gvF (rmF (↑x.natAbs : Int) (sumW W W.length) W) W.length x11) x13 = scn (rmF (↑x.natAbs : Int) (sumW W W.length) W) (gvF (rmF (↑x.natAbs : Int) (sumW W W.length) W) W.length x11) x17) ∧ ((IntKind.i64.wrap ((↑x13 : Int) + (1 : Int)) = (↑x17 : Int)) ∧ ((mkR W.length (oF (↑x.natAbs : Int) (sumW W W.length) W x11) = mkR W.length (oF (↑x.natAbs : Int) (sumW W W.length) W x11)) ∧ ((mkB W.length (gvF (rmF (↑x.natAbs : Int) (sumW W W.length) W) W.length x11) = mkB W.length (gvF (rmF (↑x.natAbs : Int) (sumW W W.length) W) W.length x11)) ∧ ((((↑x11 : Int) < left0 (↑x.natAbs : Int) (sumW W W.length) W) ∧ ((x17 ≤ W.length) ∧ (rfOK x W))) ∧ ((W.length - x17 < W.length - x13) ∧ (True)))))))))))))))))) ∧ ((decide ((↑x13 : Int) < (↑W.length : Int)) = false) → (Ob ((((0 : Int) ≤ scn (rmF (↑x.natAbs : Int) (sumW W W.length) W) (gvF (rmF (↑x.natAbs : Int) (sumW W W.length) W) W.length x11) x13) ∧ (scn (rmF (↑x.natAbs : Int) (sumW W W.length) W) (gvF (rmF (↑x.natAbs : Int) (sumW W W.length) W) W.length x11) x13 < (↑(mkB W.length (gvF (rmF (↑x.natAbs : Int) (sumW W W.length) W) W.length x11)).length : Int)))) ∧ (Ob (((scn (rmF (↑x.natAbs : Int) (sumW W W.length) W) (gvF (rmF (↑x.natAbs : Int) (sumW W W.length) W) W.length x11) x13).toNat < (mkB W.length (gvF (rmF (↑x.natAbs : Int) (sumW W W.length) W) W.length x11)).length)) ∧ (Ob ((((0 : Int) ≤ scn (rmF (↑x.natAbs : Int) (sumW W W.length) W) (gvF (rmF (↑x.natAbs : Int) (sumW W W.length) W) W.length x11) x13) ∧ (scn (rmF (↑x.natAbs : Int) (sumW W W.length) W) (gvF (rmF (↑x.natAbs : Int) (sumW W W.length) W) W.length x11) x13 < (↑(mkR W.length (oF (↑x.natAbs : Int) (sumW W W.length) W x11)).length : Int)))) ∧ (Ob (((scn (rmF (↑x.natAbs : Int) (sumW W W.length) W) (gvF (rmF (↑x.natAbs : Int) (sumW W W.length) W) W.length x11) x13).toNat < (mkR W.length (oF (↑x.natAbs : Int) (sumW W W.length) W x11)).length)) ∧ (Ob ((((0 : Int) ≤ scn (rmF (↑x.natAbs : Int) (sumW W W.length) W) (gvF (rmF (↑x.natAbs : Int) (sumW W W.length) W) W.length x11) x13) ∧ (scn (rmF (↑x.natAbs : Int) (sumW W W.length) W) (gvF (rmF (↑x.natAbs : Int) (sumW W W.length) W) W.length x11) x13 < (↑(mkR W.length (oF (↑x.natAbs : Int) (sumW W W.length) W x11)).length : Int)))) ∧ (Ob (((scn (rmF (↑x.natAbs : Int) (sumW W W.length) W) (gvF (rmF (↑x.natAbs : Int) (sumW W W.length) W) W.length x11) x13).toNat < (mkR W.length (oF (↑x.natAbs : Int) (sumW W W.length) W x11)).length)) ∧ (∃ (x18 : Nat), ((x = x) ∧ ((W = W) ∧ ((sumW W W.length = sumW W W.length) ∧ (((↑x.natAbs : Int) = (↑x.natAbs : Int)) ∧ ((IntKind.i64.wrap (left0 (↑x.natAbs : Int) (sumW W W.length) W - (↑x11 : Int) - (1 : Int)) = left0 (↑x.natAbs : Int) (sumW W W.length) W - (↑x18 : Int)) ∧ (((mkR W.length (oF (↑x.natAbs : Int) (sumW W W.length) W x11)).set (scn (rmF (↑x.natAbs : Int) (sumW W W.length) W) (gvF (rmF (↑x.natAbs : Int) (sumW W W.length) W) W.length x11) x13).toNat (SV.int IntKind.i64 (IntKind.i64.wrap ((elCell (mkR W.length (oF (↑x.natAbs : Int) (sumW W W.length) W x11)) (scn (rmF (↑x.natAbs : Int) (sumW W W.length) W) (gvF (rmF (↑x.natAbs : Int) (sumW W W.length) W) W.length x11) x13).toNat (0 : Nat)).toInt + (1 : Int)))) = mkR W.length (oF (↑x.natAbs : Int) (sumW W W.length) W x18)) ∧ (((mkB W.length (gvF (rmF (↑x.natAbs : Int) (sumW W W.length) W) W.length x11)).set (scn (rmF (↑x.natAbs : Int) (sumW W W.length) W) (gvF (rmF (↑x.natAbs : Int) (sumW W W.length) W) W.length x11) x13).toNat SV.tt = mkB W.length (gvF (rmF (↑x.natAbs : Int) (sumW W W.length) W) W.length x18)) ∧ ((((↑x18 : Int) ≤ left0 (↑x.natAbs : Int) (sumW W W.length) W) ∧ (rfOK x W)) ∧ (((left0 (↑x.natAbs : Int) (sumW W W.length) W - (↑x18 : Int)).toNat < (left0 (↑x.natAbs : Int) (sumW W W.length) W - (↑x11 : Int)).toNat) ∧ (True))))))))))))))))))))))) ∧ ((decide ((0 : Int) < left0 (↑x.natAbs : Int) (sumW W W.length) W - (↑x11 : Int)) = false) → (((decide (x < (0 : Int)) = true) → ((∃ (x19 : Nat), (((0 : Int) = (↑x19 : Int)) ∧ ((mkR W.length (oF (↑x.natAbs : Int) (sumW W W.length) W x11) = mkR W.length fun q => if q < x19 then -oF (↑x.natAbs : Int) (sumW W W.length) W (left0 (↑x.natAbs : Int) (sumW W W.length) W).toNat q else oF (↑x.natAbs : Int) (sumW W W.length) W (left0 (↑x.natAbs : Int) (sumW W W.length) W).toNat q) ∧ (((x19 ≤ W.length) ∧ ((rfOK x W) ∧ (x < (0 : Int)))) ∧ ((True) ∧ (True)))))) ∧ (∀ (x20 : Nat), (((x20 ≤ W.length) ∧ ((rfOK x W) ∧ (x < (0 : Int)))) → (((decide ((↑x20 : Int) < (↑(mkR W.length fun q => if q < x20 then -oF (↑x.natAbs : Int) (sumW W W.length) W (left0 (↑x.natAbs : Int) (sumW W W.length) W).toNat q else oF (↑x.natAbs : Int) (sumW W W.length) W (left0 (↑x.natAbs : Int) (sumW W W.length) W).toNat q).length : Int)) = true) → (Ob ((((0 : Int) ≤ (↑x20 : Int)) ∧ ((↑x20 : Int) < (↑(mkR W.length fun q => if q < x20 then -oF (↑x.natAbs : Int) (sumW W W.length) W (left0 (↑x.natAbs : Int) (sumW W W.length) W).toNat q else oF (↑x.natAbs : Int) (sumW W W.length) W (left0 (↑x.natAbs : Int) (sumW W W.length) W).toNat q).length : Int)))) ∧ (Ob ((x20 < (mkR W.length fun q => if q < x20 then -oF (↑x.natAbs : Int) (sumW W W.length) W (left0 (↑x.natAbs : Int) (sumW W W.length) W).toNat q else oF (↑x.natAbs : Int) (sumW W W.length) W (left0 (↑x.natAbs : Int) (sumW W W.length) W).toNat q).length)) ∧ (Ob ((((0 : Int) ≤ (↑x20 : Int)) ∧ ((↑x20 : Int) < (↑(mkR W.length fun q => if q < x20 then -oF (↑x.natAbs : Int) (sumW W W.length) W (left0 (↑x.natAbs : Int) (sumW W W.length) W).toNat q else oF (↑x.natAbs : Int) (sumW W W.length) W (left0 (↑x.natAbs : Int) (sumW W W.length) W).toNat q).length : Int)))) ∧ (Ob ((x20 < (mkR W.length fun q => if q < x20 then -oF (↑x.natAbs : Int) (sumW W W.length) W (left0 (↑x.natAbs : Int) (sumW W W.length) W).toNat q else oF (↑x.natAbs : Int) (sumW W W.length) W (left0 (↑x.natAbs : Int) (sumW W W.length) W).toNat q).length)) ∧ (∃ (x21 : Nat), ((IntKind.i64.wrap ((↑x20 : Int) + (1 : Int)) = (↑x21 : Int)) ∧ (((mkR W.length fun q => if q < x20 then -oF (↑x.natAbs : Int) (sumW W W.length) W (left0 (↑x.natAbs : Int) (sumW W W.length) W).toNat q else oF (↑x.natAbs : Int) (sumW W W.length) W (left0 (↑x.natAbs : Int) (sumW W W.length) W).toNat q).set x20 (SV.int IntKind.i64 (IntKind.i64.wrap ((0 : Int) - (elCell (mkR W.length fun q => if q < x20 then -oF (↑x.natAbs : Int) (sumW W W.length) W (left0 (↑x.natAbs : Int) (sumW W W.length) W).toNat q else oF (↑x.natAbs : Int) (sumW W W.length) W (left0 (↑x.natAbs : Int) (sumW W W.length) W).toNat q) x20 (0 : Nat)).toInt))) = mkR W.length fun q => if q < x21 then -oF (↑x.natAbs : Int) (sumW W W.length) W (left0 (↑x.natAbs : Int) (sumW W W.length) W).toNat q else oF (↑x.natAbs : Int) (sumW W W.length) W (left0 (↑x.natAbs : Int) (sumW W W.length) W).toNat q) ∧ (((x21 ≤ W.length) ∧ ((rfOK x W) ∧ (x < (0 : Int)))) ∧ ((W.length - x21 < W.length - x20) ∧ (True))))))))))) ∧ ((decide ((↑x20 : Int) < (↑(mkR W.length fun q => if q < x20 then -oF (↑x.natAbs : Int) (sumW W W.length) W (left0 (↑x.natAbs : Int) (sumW W W.length) W).toNat q else oF (↑x.natAbs : Int) (sumW W W.length) W (left0 (↑x.natAbs : Int) (sumW W W.length) W).toNat q).length : Int)) = false) → (((mkR W.length fun q => if q < x20 then -oF (↑x.natAbs : Int) (sumW W W.length) W (left0 (↑x.natAbs : Int) (sumW W W.length) W).toNat q else oF (↑x.natAbs : Int) (sumW W W.length) W (left0 (↑x.natAbs : Int) (sumW W W.length) W).toNat q) = refL x W) ∧ (True)))))))) ∧ ((decide (x < (0 : Int)) = false) → ((mkR W.length (oF (↑x.natAbs : Int) (sumW W W.length) W x11) = refL x W) ∧ (True))))))))))))))))))) := by kernel_rfl
theorem sumW_in2 {P : List SV} : ∀ {n : Nat}, wOk P n → 0 ≤ sumW P n ∧ sumW P n ≤ 1048576 * (n : Int)
  | 0, _ => by simp [sumW]
  | n + 1, h => by
    have h1 := sumW_in2 (n := n) (P := P) (fun q hq => h q (by omega))
    have h2 := h n (by omega)
    simp only [sumW]
    omega
theorem gv_step {n S : Int} {W : List SV} {k b : Nat} (hb : scn (rmF n S W) (gvF (rmF n S W) W.length k) W.length = b) (hf : gvF (rmF n S W) W.length k b = false) (q : Nat) :
    oF n S W (k + 1) q = (if q = b then oF n S W k b + 1 else oF n S W k q) ∧ gvF (rmF n S W) W.length (k + 1) q = (if q = b then true else gvF (rmF n S W) W.length k q) := by
  have e : gvF (rmF n S W) W.length (k + 1) q = (if q = b then true else gvF (rmF n S W) W.length k q) := by
    show (if q = (scn (rmF n S W) (gvF (rmF n S W) W.length k) W.length).toNat then true else gvF (rmF n S W) W.length k q) = _
    rw [hb, Int.toNat_natCast]
  refine ⟨?_, e⟩
  by_cases h : q = b
  · subst h
    rw [if_pos rfl] at e ⊢
    simp [oF, e, hf]
  · rw [if_neg h] at e ⊢
    simp [oF, e]
theorem rspread_known : Known Tryd.prog 21 rspreadC := by
  refine known1 (nt := 127) (An := fun (x, W) => (rf_an x W)) (labs := []) (lit := false) (em := em_rspread) sh_rspread_le (by kernel_rfl) mixedT tyT_ok .nil Tryd.func21 (by kernel_rfl) (fun a => by obtain ⟨x, W⟩ := a; kernel_rfl) (fun a => by obtain ⟨x, W⟩ := a; rfl) (fun a ha => ?_)
  obtain ⟨x, W⟩ := a
  replace ha : rfOK x W := ha.out
  refine ⟨_, vc_rspread x W, ?_⟩
  simp only [Int.reduceLE, Int.reduceLT, Int.reduceEq, Int.reduceNe, Nat.reduceLeDiff, Nat.reduceEqDiff, beq_eq_false_iff_ne, beq_iff_eq, decide_eq_decide, ne_eq, eq_self, true_and, and_true, and_self, and_false, false_and, Bool.not_true, Bool.not_false, Bool.false_eq_true, Bool.true_eq_false, false_implies, true_implies, implies_true, imp_false, not_true, not_false_eq_true, decide_eq_true_eq, decide_eq_false_iff_not, Bool.not_eq_true', Bool.not_eq_false', Bool.and_eq_true, Classical.not_not, decide_true, decide_false, Bool.and_true, Bool.true_and, if_true, if_false, Ob_iff]
  have hw' : ∀ l i, (elCell l i 0).toInt = wt l i := fun _ _ => rfl
  simp only [hw', mkR_len, mkB_len, List.length_set, mkR_set]
  obtain ⟨hx, hl0, hl, hw, hS, p, hp⟩ := id ha
  have hSl := sumW_in2 hw
  have hnx : (x.natAbs : Int) = if x < 0 then -x else x := by split <;> omega
  have hn : 0 ≤ (x.natAbs : Int) ∧ (x.natAbs : Int) ≤ 100000000000 := by omega
  have hn2 : (x.natAbs : Int) ≤ 1000000 := by omega
  have hleft := left_in (n := x.natAbs) (S := sumW W W.length) hn.1 hS hl0 hw rfl
  have href : ∀ q, refF x W q = if x < 0 then -oF x.natAbs (sumW W W.length) W (left0 x.natAbs (sumW W W.length) W).toNat q else oF x.natAbs (sumW W W.length) W (left0 x.natAbs (sumW W W.length) W).toNat q := fun _ => rfl
  unfold refL
  generalize (x.natAbs : Int) = n at *
  have hSe : sumW W W.length = sumW W W.length := rfl
  generalize hSS : sumW W W.length = S at *
  have hL0 : left0 n S W = n - sumQ n S W W.length := rfl
  have hmw : ∀ q, q < W.length → 0 ≤ n * wt W q ∧ n * wt W q ≤ 104857600000000000 := fun q hq => mulw hn (hw q hq)
  have hqw : ∀ q, q < W.length → 0 ≤ n * wt W q / S ∧ n * wt W q / S ≤ n * wt W q := fun q hq => ⟨Int.ediv_nonneg (hmw q hq).1 (by omega), Int.ediv_le_self _ (hmw q hq).1⟩
  have hrem : ∀ q, q < W.length → (IntKind.i64.wrap (n * wt W q)).tmod S = rmF n S W q := fun q hq => by
    have := hmw q hq
    rw [wrapI (by omega)]; exact Int.tmod_eq_emod_of_nonneg this.1
  have hoF : ∀ k q, q < W.length → 0 ≤ oF n S W k q ∧ oF n S W k q ≤ 104857600000000001 := fun k q hq => by
    have h1 := hqw q hq
    have h2 := hmw q hq
    have e : rqF n S W q = n * wt W q / S := rfl
    unfold oF
    split <;> omega
  refine ⟨⟨⟨0, rfl, rfl, by omega, ha⟩, fun i hi => ⟨fun h => ⟨⟨by omega, h⟩, i + 1, ?_, wrapI (by omega), ⟨by omega, ha⟩, by omega⟩, fun h => ⟨⟨by omega, by omega, by omega⟩, fun hx0 => ⟨(), ?_, ?_, mkR_zero, ha⟩, fun hx0 => ⟨(), ?_, ?_, mkR_zero, ha⟩⟩⟩⟩, fun _ _ => ⟨⟨0, ?_, rfl, mkR_ext fun q _ => by rw [if_neg (Nat.not_lt_zero _)], by omega, ha⟩, fun i hi => ⟨fun h => ?_, fun h => ⟨⟨by omega, by omega, by omega⟩, ⟨0, ?_, mkR_ext fun q hq => ?_, mkB_zero, ?_, ha⟩, fun k hk => ⟨fun hlt => ?_, fun hge => ?_⟩⟩⟩⟩⟩
  · have h1 := sumW_in2 (P := W) (n := i) (fun q hq => hw q (by omega))
    have h2 := hw i (by omega)
    rw [wrapI (by omega)]; rfl
  · rw [show i = W.length by omega]; exact hSS
  · rw [if_pos hx0] at hnx; rw [wrapI (by omega)]; omega
  · rw [show i = W.length by omega]; exact hSS
  · rw [if_neg hx0] at hnx; exact hnx.symm
  · simp only [sumQ]; omega
  · have hiW : i < W.length := by omega
    have h1 := hmw i hiW
    have h2 := hqw i hiW
    have h3 := hleft i (by omega)
    have h4 := hleft (i + 1) (by omega)
    have e : sumQ n S W (i + 1) = sumQ n S W i + n * wt W i / S := rfl
    rw [e] at h4
    have et : (n * wt W i).tdiv S = n * wt W i / S := Int.tdiv_eq_ediv_of_nonneg h1.1
    rw [wrapI (n := n * wt W i) (by omega), et, wrapI (n := n * wt W i / S) (by omega), mkR_wt hiW, if_pos rfl]
    refine ⟨⟨by omega, h⟩, by omega, ⟨by omega, h⟩, hiW, ⟨by omega, h⟩, hiW, i + 1, ?_, wrapI (by omega), mkR_ext fun q hq => ?_, ⟨by omega, ha⟩, by omega⟩
    · rw [wrapI (by omega), e]; omega
    · by_cases hq1 : q = i
      · rw [if_pos hq1, if_pos (by omega), hq1]; rfl
      · rw [if_neg hq1]
        by_cases hq2 : q < i
        · rw [if_pos hq2, if_pos (by omega)]
        · rw [if_neg hq2, if_neg (by omega)]
  · rw [show i = W.length by omega, hL0]; omega
  · rw [if_pos (by omega)]
    unfold oF
    simp [gvF]
  · have := hleft W.length (Nat.le_refl _)
    rw [hL0]; omega
  · have hlf := hleft W.length (Nat.le_refl _)
    have hkW : k < W.length := by omega
    obtain ⟨g1, g2⟩ := gv_is hp k (by omega)
    have g2 := g2 hkW
    have gin := srt_in hp hkW
    refine ⟨⟨0, rfl, rfl, by omega, by omega, ha⟩, fun t ht => ⟨fun h => ?_, fun h => ?_⟩⟩
    · have htW : t < W.length := by omega
      have es : scn (rmF n S W) (gvF (rmF n S W) W.length k) (t + 1) = if gvF (rmF n S W) W.length k t = false ∧ (scn (rmF n S W) (gvF (rmF n S W) W.length k) t < 0 ∨ rmF n S W (scn (rmF n S W) (gvF (rmF n S W) W.length k) t).toNat < rmF n S W t) then (t : Int) else scn (rmF n S W) (gvF (rmF n S W) W.length k) t := rfl
      have hsp := scn_spec (rmF n S W) (gvF (rmF n S W) W.length k) t
      rw [mkB_at htW]
      generalize scn (rmF n S W) (gvF (rmF n S W) W.length k) t = b at *
      refine ⟨⟨by omega, h⟩, htW, fun hg => ⟨fun hb => ⟨t + 1, ?_, wrapI (by omega), ⟨by omega, by omega, ha⟩, by omega⟩, fun hb => ?_⟩, fun hg => ⟨t + 1, ?_, wrapI (by omega), ⟨by omega, by omega, ha⟩, by omega⟩⟩
      · rw [es, if_pos ⟨hg, .inl hb⟩]
      · have hbt : 0 ≤ b ∧ b < t := by omega
        rw [hrem t htW, hrem b.toNat (by omega)]
        refine ⟨⟨by omega, h⟩, by omega, ⟨by omega, by omega⟩, by omega, fun hc => ⟨t + 1, ?_, wrapI (by omega), ⟨by omega, by omega, ha⟩, by omega⟩, fun hc => ⟨t + 1, ?_, wrapI (by omega), ⟨by omega, by omega, ha⟩, by omega⟩⟩
        · rw [es, if_pos ⟨hg, .inr hc⟩]
        · rw [es, if_neg (fun hh => by rcases hh.2 with h5 | h5 <;> omega)]
      · rw [es, if_neg (fun hh => by rw [hg] at hh; cases hh.1)]
    · have ht' : t = W.length := by omega
      subst ht'
      obtain ⟨b, hb⟩ : ∃ b : Nat, p.getD k 0 = b := ⟨(p.getD k 0).toNat, by omega⟩
      rw [g2, hb, Int.toNat_natCast]
      have hbW : b < W.length := by omega
      have hbf : gvF (rmF n S W) W.length k b = false := by
        rw [← Bool.not_eq_true, g1 b hbW]
        rintro ⟨j, hj, e⟩
        exact srt_inj hp hj hkW (by omega)
      have hst := gv_step (by rw [g2, hb]) hbf
      have ho := hoF k b hbW
      rw [mkR_wt hbW, wrapI (n := oF n S W k b + 1) (by omega)]
      refine ⟨⟨by omega, by omega⟩, hbW, ⟨by omega, by omega⟩, hbW, ⟨by omega, by omega⟩, hbW, k + 1, ?_, mkR_ext fun q hq => (hst q).1.symm, ?_, ⟨by omega, ha⟩, by omega⟩
      · rw [wrapI (by omega)]; omega
      · rw [show SV.tt = bSV true from rfl, mkB_set]
        exact mkB_ext fun q hq => (hst q).2.symm
  · have ek : k = (left0 n S W).toNat := by omega
    refine ⟨fun hx0 => ⟨⟨0, rfl, mkR_ext fun q hq => by rw [if_neg (Nat.not_lt_zero _), ek], by omega, ha, hx0⟩, fun u hu => ⟨fun h => ?_, fun h => ?_⟩⟩, fun hx0 => mkR_ext fun q hq => by rw [href, if_neg hx0, ek]⟩
    · have huW : u < W.length := by omega
      have ho := hoF (left0 n S W).toNat u huW
      rw [mkR_wt huW, if_neg (Nat.lt_irrefl _), wrapI (n := 0 - oF n S W (left0 n S W).toNat u) (by omega)]
      refine ⟨⟨by omega, h⟩, huW, ⟨by omega, h⟩, huW, u + 1, wrapI (by omega), mkR_ext fun q hq => ?_, ⟨by omega, ha, hx0⟩, by omega⟩
      by_cases hq1 : q = u
      · rw [if_pos hq1, if_pos (by omega), hq1]; omega
      · rw [if_neg hq1]
        by_cases hq2 : q < u
        · rw [if_pos hq2, if_pos (by omega)]
        · rw [if_neg hq2, if_neg (by omega)]
    · exact mkR_ext fun q hq => by rw [href, if_pos hx0, if_pos (by omega)]

end Go.Rx

