/- What the worst choice takes, line by line; the law. -/
import Derived.Test.YtepacdklieigfaaDoorKs
namespace Go.Rx
open Go.Proofs
set_option linter.unusedSimpArgs false
set_option linter.unusedVariables false

def lnH (S : List SV) (m : Int) : List UInt8 := if 0 ≤ (txS S m).2.1 then (([115, 99, 104, 101, 109, 101, 32] ++ Lib.itoa (txS S m).2.1) ++ [32, 98, 97, 110, 100, 32]) ++ Lib.itoa (txS S m).2.2 else [108, 105, 109, 105, 116]
def lnR (S : List SV) (m : Int) : Int := if 0 ≤ (txS S m).2.1 then bd (sch S (txS S m).2.1.toNat) (txS S m).2.2.toNat 1 else m
def lnC (C : List SV) (i : Nat) : List UInt8 := (((enm C i ++ [32, 98, 97, 110, 100, 32]) ++ Lib.itoa (bd (wC C C.length) i 0)) ++ [32]) ++ Lib.itoa (bd (ctB C i) (bd (wC C C.length) i 0).toNat 1)
def lnN (C : List SV) (h : List UInt8) : Nat → List SV
  | 0 => [.str h]
  | i + 1 => lnN C h i ++ [.str (lnC C i)]
def lnT (S : List SV) (m : Int) : List UInt8 := (lnH S m ++ [32]) ++ Lib.itoa (lnR S m)
def lnS (S C K : List SV) (m r : Int) : List SV := if tabE S C K m r = 0 then lnN C (lnT S m) C.length ++ [.str ([107, 101, 101, 112, 32] ++ Lib.itoa (wK S C m))] else []
def kl_an (S C K : List SV) (m r : Int) : Nat → Option Ann
  | 0 => some ⟨Nat, fun i => ⟨[(1, .ptr 1 0), (3, .ptr 3 0), (7, .osl 48 0), (50, .sl [.int .i64] (wC C C.length)), (51, .int .i64 C.length), (52, .int .i64 i)], [(1, .box 26 (tabC S C K m r)), (3, .box 39 [.int .i64 (txS S m).2.1, .int .i64 (txS S m).2.2, .sl [.int .i64] (wC C C.length), .int .i64 (wK S C m)]), (48, .row 0 9 [.str] (lnN C (lnT S m) i))]⟩, fun i => i ≤ C.length ∧ tabE S C K m r = 0, fun i => C.length - i, [1, 3, 7, 50, 51, 52], [1, 3, 48], [], fun _ _ => none⟩
  | 4007 => some ⟨Unit, fun _ => ⟨[(1, .ptr 1 0), (3, .ptr 3 0), (5, .str (lnH S m)), (6, .int .i64 (lnR S m))], [(1, .box 26 (tabC S C K m r)), (3, .box 39 [.int .i64 (txS S m).2.1, .int .i64 (txS S m).2.2, .sl [.int .i64] (wC C C.length), .int .i64 (wK S C m)])]⟩, fun _ => tabE S C K m r = 0, fun _ => 0, [1, 3, 5, 6], [1, 3], [], fun _ _ => none⟩
  | _ => none

def sh_klines : List SV → Option ((List SV) × (List SV) × (List SV) × Int × Int)
  | [.agg [S', C', K', .int .i64 m, .int .i64 r]] => (match slOf [.sl [.int .i64, .int .i64, .int .i64]] S' with | some S => (match slOf [.str, .int .i64, .sl [.int .i64, .int .i64, .int .i64], .int .i64, .int .i64, .int .i64] C' with | some C => (match slOf [.str, .int .i64, .int .i64, .int .i64] K' with | some K => some (S, C, K, m, r) | _ => none) | _ => none) | _ => none)
  | _ => none
def em_klines : (List SV) × (List SV) × (List SV) × Int × Int → List SV := fun (S, C, K, m, r) => [.agg [.sl [.sl [.int .i64, .int .i64, .int .i64]] S, .sl [.str, .int .i64, .sl [.int .i64, .int .i64, .int .i64], .int .i64, .int .i64, .int .i64] C, .sl [.str, .int .i64, .int .i64, .int .i64] K, .int .i64 m, .int .i64 r]]
theorem sh_klines_le : ∀ us a, sh_klines us = some a → leL us (em_klines a) := by
  intro us a h
  unfold sh_klines at h
  split at h
  · split at h
    · split at h
      · split at h
        · cases h; exact (.cons (.agg (.cons (.sl (by assumption)) (.cons (.sl (by assumption)) (.cons (.sl (by assumption)) (.cons (.refl _) (.cons (.refl _) .nil)))))) .nil)
        · cases h
      · cases h
    · cases h
  · cases h
def klinesC : Con := conOf sh_klines (fun _ => none) (fun (S, C, K, m, r) => .sl [.str] (lnS S C K m r))
set_option maxRecDepth 100000 in
theorem vc_klines (S : List SV) (C : List SV) (K : List SV) (m : Int) (r : Int) : (wpF ⟨88, tyT, [(10, kworstC), (19, itoaC)], false, 0, [], false⟩ ((kl_an S C K m r)) [] Tryd.f8 (em_klines (S, C, K, m, r)) (.sl [.str] (lnS S C K m r))) = ((((((!decide (tabE S C K m r = (0 : Int))) = true) → ((lnS S C K m r = []) ∧ (True))) ∧ (((!decide (tabE S C K m r = (0 : Int))) = false) → (((decide ((0 : Int) ≤ wo S C K m r (txS S m).snd.fst) = true) → (Ob ((in64 (wo S C K m r (txS S m).snd.fst))) ∧ (Ob (((7 : Nat) + (Lib.itoa (wo S C K m r (txS S m).snd.fst)).length ≤ (9223372036854775807 : Nat))) ∧ (Ob ((([(115 : UInt8), (99 : UInt8), (104 : UInt8), (101 : UInt8), (109 : UInt8), (101 : UInt8), (32 : UInt8)] ++ Lib.itoa (wo S C K m r (txS S m).snd.fst)).length + (6 : Nat) ≤ (9223372036854775807 : Nat))) ∧ (Ob ((in64 (wo S C K m r (txS S m).snd.snd))) ∧ (Ob ((([(115 : UInt8), (99 : UInt8), (104 : UInt8), (101 : UInt8), (109 : UInt8), (101 : UInt8), (32 : UInt8)] ++ Lib.itoa (wo S C K m r (txS S m).snd.fst) ++ [(32 : UInt8), (98 : UInt8), (97 : UInt8), (110 : UInt8), (100 : UInt8), (32 : UInt8)]).length + (Lib.itoa (wo S C K m r (txS S m).snd.snd)).length ≤ (9223372036854775807 : Nat))) ∧ (Ob ((((0 : Int) ≤ wo S C K m r (txS S m).snd.fst) ∧ (wo S C K m r (txS S m).snd.fst < (↑S.length : Int)))) ∧ (Ob ((((0 : Int) ≤ wo S C K m r (txS S m).snd.snd) ∧ (wo S C K m r (txS S m).snd.snd < (↑(elCell S (wo S C K m r (txS S m).snd.fst).toNat (0 : Nat)).toSl.length : Int)))) ∧ (∃ (x1 : Unit), (([(115 : UInt8), (99 : UInt8), (104 : UInt8), (101 : UInt8), (109 : UInt8), (101 : UInt8), (32 : UInt8)] ++ Lib.itoa (wo S C K m r (txS S m).snd.fst) ++ [(32 : UInt8), (98 : UInt8), (97 : UInt8), (110 : UInt8), (100 : UInt8), (32 : UInt8)] ++ Lib.itoa (wo S C K m r (txS S m).snd.snd) = lnH S m) ∧ (((elCell (elCell S (wo S C K m r (txS S m).snd.fst).toNat (0 : Nat)).toSl (wo S C K m r (txS S m).snd.snd).toNat (1 : Nat)).toInt = lnR S m) ∧ ((S = S) ∧ ((C = C) ∧ ((K = K) ∧ ((m = m) ∧ ((r = r) ∧ ((wo S C K m r (txS S m).snd.fst = (txS S m).snd.fst) ∧ ((wo S C K m r (txS S m).snd.snd = (txS S m).snd.snd) ∧ ((wD S C K m r = wC C C.length) ∧ ((wo S C K m r (wK S C m) = wK S C m) ∧ ((tabE S C K m r = (0 : Int)) ∧ ((True) ∧ (True))))))))))))))))))))))) ∧ ((decide ((0 : Int) ≤ wo S C K m r (txS S m).snd.fst) = false) → (∃ (x2 : Unit), (([(108 : UInt8), (105 : UInt8), (109 : UInt8), (105 : UInt8), (116 : UInt8)] = lnH S m) ∧ ((m = lnR S m) ∧ ((S = S) ∧ ((C = C) ∧ ((K = K) ∧ ((m = m) ∧ ((r = r) ∧ ((wo S C K m r (txS S m).snd.fst = (txS S m).snd.fst) ∧ ((wo S C K m r (txS S m).snd.snd = (txS S m).snd.snd) ∧ ((wD S C K m r = wC C C.length) ∧ ((wo S C K m r (wK S C m) = wK S C m) ∧ ((tabE S C K m r = (0 : Int)) ∧ ((True) ∧ (True))))))))))))))))))) ∧ (∀ (x3 : Unit), ((tabE S C K m r = (0 : Int)) → (Ob (((lnH S m).length + (1 : Nat) ≤ (9223372036854775807 : Nat))) ∧ (Ob ((in64 (lnR S m))) ∧ (Ob (((lnH S m ++ [(32 : UInt8)]).length + (Lib.itoa (lnR S m)).length ≤ (9223372036854775807 : Nat))) ∧ ((∃ (x4 : Nat), ((wC C C.length = wC C C.length) ∧ (((↑(wC C C.length).length : Int) = (↑C.length : Int)) ∧ (((0 : Int) = (↑x4 : Int)) ∧ ((S = S) ∧ ((C = C) ∧ ((K = K) ∧ ((m = m) ∧ ((r = r) ∧ (((txS S m).snd.fst = (txS S m).snd.fst) ∧ (((txS S m).snd.snd = (txS S m).snd.snd) ∧ ((wC C C.length = wC C C.length) ∧ ((wK S C m = wK S C m) ∧ (([SV.str (lnH S m ++ [(32 : UInt8)] ++ Lib.itoa (lnR S m))] = lnN C (lnT S m) x4) ∧ (((x4 ≤ C.length) ∧ (tabE S C K m r = (0 : Int))) ∧ ((True) ∧ (True))))))))))))))))) ∧ (∀ (x5 : Nat), (((x5 ≤ C.length) ∧ (tabE S C K m r = (0 : Int))) → (((decide ((↑x5 : Int) < (↑C.length : Int)) = true) → (Ob ((((0 : Int) ≤ (↑x5 : Int)) ∧ ((↑x5 : Int) < (↑(wC C C.length).length : Int)))) ∧ (Ob ((((0 : Int) ≤ (↑x5 : Int)) ∧ ((↑x5 : Int) < (↑C.length : Int)))) ∧ (Ob (((elCell C x5 (0 : Nat)).toStr.length + (6 : Nat) ≤ (9223372036854775807 : Nat))) ∧ (Ob ((in64 (elCell (wC C C.length) x5 (0 : Nat)).toInt)) ∧ (Ob ((((elCell C x5 (0 : Nat)).toStr ++ [(32 : UInt8), (98 : UInt8), (97 : UInt8), (110 : UInt8), (100 : UInt8), (32 : UInt8)]).length + (Lib.itoa (elCell (wC C C.length) x5 (0 : Nat)).toInt).length ≤ (9223372036854775807 : Nat))) ∧ (Ob ((((elCell C x5 (0 : Nat)).toStr ++ [(32 : UInt8), (98 : UInt8), (97 : UInt8), (110 : UInt8), (100 : UInt8), (32 : UInt8)] ++ Lib.itoa (elCell (wC C C.length) x5 (0 : Nat)).toInt).length + (1 : Nat) ≤ (9223372036854775807 : Nat))) ∧ (Ob ((((0 : Int) ≤ (elCell (wC C C.length) x5 (0 : Nat)).toInt) ∧ ((elCell (wC C C.length) x5 (0 : Nat)).toInt < (↑(elCell C x5 (2 : Nat)).toSl.length : Int)))) ∧ (Ob ((in64 (elCell (elCell C x5 (2 : Nat)).toSl (elCell (wC C C.length) x5 (0 : Nat)).toInt.toNat (1 : Nat)).toInt)) ∧ (Ob ((((elCell C x5 (0 : Nat)).toStr ++ [(32 : UInt8), (98 : UInt8), (97 : UInt8), (110 : UInt8), (100 : UInt8), (32 : UInt8)] ++ Lib.itoa (elCell (wC C C.length) x5 (0 : Nat)).toInt ++ [(32 : UInt8)]).length + (Lib.itoa (elCell (elCell C x5 (2 : Nat)).toSl (elCell (wC C C.length) x5 (0 : Nat)).toInt.toNat (1 : Nat)).toInt).length ≤ (9223372036854775807 : Nat))) ∧ (Ob (((((lnN C (lnT S m) x5).length + (1 : Nat)) * (16 : Nat) ≤ (1099511627776 : Nat)) ∧ ((lnN C (lnT S m) x5).length + (1 : Nat) ≤ (1099511627776 : Nat)))) ∧ (∃ (x6 : Nat), ((wC C C.length = wC C C.length) ∧ (((↑C.length : Int) = (↑C.length : Int)) ∧ ((IntKind.i64.wrap ((↑x5 : Int) + (1 : Int)) = (↑x6 : Int)) ∧ ((S = S) ∧ ((C = C) ∧ ((K = K) ∧ ((m = m) ∧ ((r = r) ∧ (((txS S m).snd.fst = (txS S m).snd.fst) ∧ (((txS S m).snd.snd = (txS S m).snd.snd) ∧ ((wC C C.length = wC C C.length) ∧ ((wK S C m = wK S C m) ∧ ((lnN C (lnT S m) x5 ++ [SV.str ((elCell C x5 (0 : Nat)).toStr ++ [(32 : UInt8), (98 : UInt8), (97 : UInt8), (110 : UInt8), (100 : UInt8), (32 : UInt8)] ++ Lib.itoa (elCell (wC C C.length) x5 (0 : Nat)).toInt ++ [(32 : UInt8)] ++ Lib.itoa (elCell (elCell C x5 (2 : Nat)).toSl (elCell (wC C C.length) x5 (0 : Nat)).toInt.toNat (1 : Nat)).toInt)] = lnN C (lnT S m) x6) ∧ (((x6 ≤ C.length) ∧ (tabE S C K m r = (0 : Int))) ∧ ((C.length - x6 < C.length - x5) ∧ (True)))))))))))))))))))))))))))) ∧ ((decide ((↑x5 : Int) < (↑C.length : Int)) = false) → (Ob ((in64 (wK S C m))) ∧ (Ob (((5 : Nat) + (Lib.itoa (wK S C m)).length ≤ (9223372036854775807 : Nat))) ∧ (Ob (((((lnN C (lnT S m) x5).length + (1 : Nat)) * (16 : Nat) ≤ (1099511627776 : Nat)) ∧ ((lnN C (lnT S m) x5).length + (1 : Nat) ≤ (1099511627776 : Nat)))) ∧ ((lnN C (lnT S m) x5 ++ [SV.str ([(107 : UInt8), (101 : UInt8), (101 : UInt8), (112 : UInt8), (32 : UInt8)] ++ Lib.itoa (wK S C m))] = lnS S C K m r) ∧ (True))))))))))))))))) := by kernel_rfl
def sh_lcuts : List SV → Option ((List SV) × (List SV) × (List SV) × Int × Int)
  | [.agg [S', C', K', .int .i64 m, .int .i64 r]] => (match slOf [.sl [.int .i64, .int .i64, .int .i64]] S' with | some S => (match slOf [.str, .int .i64, .sl [.int .i64, .int .i64, .int .i64], .int .i64, .int .i64, .int .i64] C' with | some C => (match slOf [.str, .int .i64, .int .i64, .int .i64] K' with | some K => some (S, C, K, m, r) | _ => none) | _ => none) | _ => none)
  | _ => none
def em_lcuts : (List SV) × (List SV) × (List SV) × Int × Int → List SV := fun (S, C, K, m, r) => [.agg [.sl [.sl [.int .i64, .int .i64, .int .i64]] S, .sl [.str, .int .i64, .sl [.int .i64, .int .i64, .int .i64], .int .i64, .int .i64, .int .i64] C, .sl [.str, .int .i64, .int .i64, .int .i64] K, .int .i64 m, .int .i64 r]]
theorem sh_lcuts_le : ∀ us a, sh_lcuts us = some a → leL us (em_lcuts a) := by
  intro us a h
  unfold sh_lcuts at h
  split at h
  · split at h
    · split at h
      · split at h
        · cases h; exact (.cons (.agg (.cons (.sl (by assumption)) (.cons (.sl (by assumption)) (.cons (.sl (by assumption)) (.cons (.refl _) (.cons (.refl _) .nil)))))) .nil)
        · cases h
      · cases h
    · cases h
  · cases h
def lcutsC : Con := conOf sh_lcuts (fun (S, C, K, m, r) => some (Ob (wfL [.sl [.int .i64, .int .i64, .int .i64]] S ∧ wfL [.str, .int .i64, .sl [.int .i64, .int .i64, .int .i64], .int .i64, .int .i64, .int .i64] C ∧ wfL [.str, .int .i64, .int .i64, .int .i64] K ∧ in64 m ∧ in64 r))) (fun (S, C, K, m, r) => .bool true)
set_option maxRecDepth 100000 in
theorem vc_lcuts (S : List SV) (C : List SV) (K : List SV) (m : Int) (r : Int) : (wpF ⟨169, tyT, [(4, lkeepsC), (5, lsmallC), (6, kcutC), (7, kroomC), (8, klinesC), (9, tcheckC), (10, kworstC), (11, kcheckC), (12, tcloneC), (13, tsameC)], false, 0, [], false⟩ (noAnn) [] Tryd.f3 (em_lcuts (S, C, K, m, r)) (.bool true)) = (((((!true) = true) → ((true = false) ∧ (True))) ∧ (((!true) = false) → ((((!smB S C K) = true) → ((true = true) ∧ (True))) ∧ (((!smB S C K) = false) → (Ob (((wfL [CK.sl bandK] S) ∧ ((wfL ctK C) ∧ (wfL kdK K)))) ∧ ((((!decide (tabE S C K m r = (0 : Int))) = true) → ((((!cutB S C K m r) = true) → (((decide (tabE S C K m r = tabE S C K m r) = true) → (((decide (wo S C K m r (wK S C m - (500 : Int)) = (0 : Int)) = true) → (((decide ((↑(lnS S C K m r).length : Int) = (0 : Int)) = true) → (((decide (selI (cutB S C K m r) (cutM S C m) = (0 : Int)) = true) → ((decide ((↑(sel (cutB S C K m r) S).length : Int) = (0 : Int)) = true) ∧ (True))) ∧ ((decide (selI (cutB S C K m r) (cutM S C m) = (0 : Int)) = false) → ((true = false) ∧ (True))))) ∧ ((decide ((↑(lnS S C K m r).length : Int) = (0 : Int)) = false) → ((true = false) ∧ (True))))) ∧ ((decide (wo S C K m r (wK S C m - (500 : Int)) = (0 : Int)) = false) → ((true = false) ∧ (True))))) ∧ ((decide (tabE S C K m r = tabE S C K m r) = false) → ((true = false) ∧ (True))))) ∧ (((!cutB S C K m r) = false) → ((true = false) ∧ (True))))) ∧ (((!decide (tabE S C K m r = (0 : Int))) = false) → ((((!decide (tabE S C K m r = (0 : Int))) = true) → ((true = false) ∧ (True))) ∧ (((!decide (tabE S C K m r = (0 : Int))) = false) → ((((!decide (wo S C K m r (wK S C m - (500 : Int)) = IntKind.i64.wrap (wo S C K m r (wK S C m) - (500 : Int)))) = true) → ((true = false) ∧ (True))) ∧ (((!decide (wo S C K m r (wK S C m - (500 : Int)) = IntKind.i64.wrap (wo S C K m r (wK S C m) - (500 : Int)))) = false) → ((((!decide ((0 : Int) ≤ wo S C K m r (wK S C m - (500 : Int))) == decide (kcE S C K m r = (0 : Int))) = true) → ((true = false) ∧ (True))) ∧ (((!decide ((0 : Int) ≤ wo S C K m r (wK S C m - (500 : Int))) == decide (kcE S C K m r = (0 : Int))) = false) → ((((!decide ((↑(lnS S C K m r).length : Int) = IntKind.i64.wrap ((↑C.length : Int) + (2 : Int)))) = true) → ((true = false) ∧ (True))) ∧ (((!decide ((↑(lnS S C K m r).length : Int) = IntKind.i64.wrap ((↑C.length : Int) + (2 : Int)))) = false) → (Ob ((tclP S C K)) ∧ (((decide ((0 : Int) ≤ wo S C K m r (wK S C m - (500 : Int))) = true) → (((decide (wo S C K m r (txS S m).snd.fst < (0 : Int)) = true) → ((((!decide (kcE S C K (IntKind.i64.wrap (m + wo S C K m r (wK S C m - (500 : Int)))) r = (0 : Int))) = true) → ((true = false) ∧ (True))) ∧ (((!decide (kcE S C K (IntKind.i64.wrap (m + wo S C K m r (wK S C m - (500 : Int)))) r = (0 : Int))) = false) → (((decide (IntKind.i64.wrap (IntKind.i64.wrap (m + wo S C K m r (wK S C m - (500 : Int))) + (1 : Int)) ≤ (10000 : Int)) = true) → ((((!decide (kcE S C K (IntKind.i64.wrap (IntKind.i64.wrap (m + wo S C K m r (wK S C m - (500 : Int))) + (1 : Int))) r = (100 : Int))) = true) → ((true = false) ∧ (True))) ∧ (((!decide (kcE S C K (IntKind.i64.wrap (IntKind.i64.wrap (m + wo S C K m r (wK S C m - (500 : Int))) + (1 : Int))) r = (100 : Int))) = false) → (((decide ((0 : Int) ≤ wo S C K m r (wK S C m - (500 : Int))) = true) → (((cutB S C K m r = true) → (Ob ((((sel (cutB S C K m r) S = S) ∧ ((sel (cutB S C K m r) C = C) ∧ (sel (cutB S C K m r) K = K))) ∧ (tclP (sel (cutB S C K m r) S) (sel (cutB S C K m r) C) (sel (cutB S C K m r) K)))) ∧ (((decide (selI (cutB S C K m r) (cutM S C m) = m) && decide (selI (cutB S C K m r) r = r)) = true) ∧ (True)))) ∧ ((cutB S C K m r = false) → ((true = false) ∧ (True))))) ∧ ((decide ((0 : Int) ≤ wo S C K m r (wK S C m - (500 : Int))) = false) → (Ob ((tclP S C K)) ∧ ((((!cutB S C K m r) = true) → (((decide (kcE S C K (0 : Int) r = (100 : Int)) = true) → ((decide ((↑(sel (cutB S C K m r) S).length : Int) = (0 : Int)) = true) ∧ (True))) ∧ ((decide (kcE S C K (0 : Int) r = (100 : Int)) = false) → ((true = false) ∧ (True))))) ∧ (((!cutB S C K m r) = false) → (Ob ((((sel (cutB S C K m r) S = S) ∧ ((sel (cutB S C K m r) C = C) ∧ (sel (cutB S C K m r) K = K))) ∧ (tclP (sel (cutB S C K m r) S) (sel (cutB S C K m r) C) (sel (cutB S C K m r) K)))) ∧ ((((!(decide (selI (cutB S C K m r) (cutM S C m) = selI (cutB S C K m r) (cutM S C m)) && decide (selI (cutB S C K m r) r = r))) = true) → ((true = false) ∧ (True))) ∧ (((!(decide (selI (cutB S C K m r) (cutM S C m) = selI (cutB S C K m r) (cutM S C m)) && decide (selI (cutB S C K m r) r = r))) = false) → ((((!decide (kcE (sel (cutB S C K m r) S) (sel (cutB S C K m r) C) (sel (cutB S C K m r) K) (selI (cutB S C K m r) (cutM S C m)) (selI (cutB S C K m r) r) = (0 : Int))) = true) → ((true = false) ∧ (True))) ∧ (((!decide (kcE (sel (cutB S C K m r) S) (sel (cutB S C K m r) C) (sel (cutB S C K m r) K) (selI (cutB S C K m r) (cutM S C m)) (selI (cutB S C K m r) r) = (0 : Int))) = false) → (((decide (m ≤ selI (cutB S C K m r) (cutM S C m)) = true) → ((true = false) ∧ (True))) ∧ ((decide (m ≤ selI (cutB S C K m r) (cutM S C m)) = false) → ((decide (kcE S C K (IntKind.i64.wrap (selI (cutB S C K m r) (cutM S C m) + (1 : Int))) r = (100 : Int)) = true) ∧ (True))))))))))))))))) ∧ ((decide (IntKind.i64.wrap (IntKind.i64.wrap (m + wo S C K m r (wK S C m - (500 : Int))) + (1 : Int)) ≤ (10000 : Int)) = false) → (((decide ((0 : Int) ≤ wo S C K m r (wK S C m - (500 : Int))) = true) → (((cutB S C K m r = true) → (Ob ((((sel (cutB S C K m r) S = S) ∧ ((sel (cutB S C K m r) C = C) ∧ (sel (cutB S C K m r) K = K))) ∧ (tclP (sel (cutB S C K m r) S) (sel (cutB S C K m r) C) (sel (cutB S C K m r) K)))) ∧ (((decide (selI (cutB S C K m r) (cutM S C m) = m) && decide (selI (cutB S C K m r) r = r)) = true) ∧ (True)))) ∧ ((cutB S C K m r = false) → ((true = false) ∧ (True))))) ∧ ((decide ((0 : Int) ≤ wo S C K m r (wK S C m - (500 : Int))) = false) → (Ob ((tclP S C K)) ∧ ((((!cutB S C K m r) = true) → (((decide (kcE S C K (0 : Int) r = (100 : Int)) = true) → ((decide ((↑(sel (cutB S C K m r) S).length : Int) = (0 : Int)) = true) ∧ (True))) ∧ ((decide (kcE S C K (0 : Int) r = (100 : Int)) = false) → ((true = false) ∧ (True))))) ∧ (((!cutB S C K m r) = false) → (Ob ((((sel (cutB S C K m r) S = S) ∧ ((sel (cutB S C K m r) C = C) ∧ (sel (cutB S C K m r) K = K))) ∧ (tclP (sel (cutB S C K m r) S) (sel (cutB S C K m r) C) (sel (cutB S C K m r) K)))) ∧ ((((!(decide (selI (cutB S C K m r) (cutM S C m) = selI (cutB S C K m r) (cutM S C m)) && decide (selI (cutB S C K m r) r = r))) = true) → ((true = false) ∧ (True))) ∧ (((!(decide (selI (cutB S C K m r) (cutM S C m) = selI (cutB S C K m r) (cutM S C m)) && decide (selI (cutB S C K m r) r = r))) = false) → ((((!decide (kcE (sel (cutB S C K m r) S) (sel (cutB S C K m r) C) (sel (cutB S C K m r) K) (selI (cutB S C K m r) (cutM S C m)) (selI (cutB S C K m r) r) = (0 : Int))) = true) → ((true = false) ∧ (True))) ∧ (((!decide (kcE (sel (cutB S C K m r) S) (sel (cutB S C K m r) C) (sel (cutB S C K m r) K) (selI (cutB S C K m r) (cutM S C m)) (selI (cutB S C K m r) r) = (0 : Int))) = false) → (((decide (m ≤ selI (cutB S C K m r) (cutM S C m)) = true) → ((true = false) ∧ (True))) ∧ ((decide (m ≤ selI (cutB S C K m r) (cutM S C m)) = false) → ((decide (kcE S C K (IntKind.i64.wrap (selI (cutB S C K m r) (cutM S C m) + (1 : Int))) r = (100 : Int)) = true) ∧ (True))))))))))))))))))) ∧ ((decide (wo S C K m r (txS S m).snd.fst < (0 : Int)) = false) → (((decide ((0 : Int) ≤ wo S C K m r (wK S C m - (500 : Int))) = true) → (((cutB S C K m r = true) → (Ob ((((sel (cutB S C K m r) S = S) ∧ ((sel (cutB S C K m r) C = C) ∧ (sel (cutB S C K m r) K = K))) ∧ (tclP (sel (cutB S C K m r) S) (sel (cutB S C K m r) C) (sel (cutB S C K m r) K)))) ∧ (((decide (selI (cutB S C K m r) (cutM S C m) = m) && decide (selI (cutB S C K m r) r = r)) = true) ∧ (True)))) ∧ ((cutB S C K m r = false) → ((true = false) ∧ (True))))) ∧ ((decide ((0 : Int) ≤ wo S C K m r (wK S C m - (500 : Int))) = false) → (Ob ((tclP S C K)) ∧ ((((!cutB S C K m r) = true) → (((decide (kcE S C K (0 : Int) r = (100 : Int)) = true) → ((decide ((↑(sel (cutB S C K m r) S).length : Int) = (0 : Int)) = true) ∧ (True))) ∧ ((decide (kcE S C K (0 : Int) r = (100 : Int)) = false) → ((true = false) ∧ (True))))) ∧ (((!cutB S C K m r) = false) → (Ob ((((sel (cutB S C K m r) S = S) ∧ ((sel (cutB S C K m r) C = C) ∧ (sel (cutB S C K m r) K = K))) ∧ (tclP (sel (cutB S C K m r) S) (sel (cutB S C K m r) C) (sel (cutB S C K m r) K)))) ∧ ((((!(decide (selI (cutB S C K m r) (cutM S C m) = selI (cutB S C K m r) (cutM S C m)) && decide (selI (cutB S C K m r) r = r))) = true) → ((true = false) ∧ (True))) ∧ (((!(decide (selI (cutB S C K m r) (cutM S C m) = selI (cutB S C K m r) (cutM S C m)) && decide (selI (cutB S C K m r) r = r))) = false) → ((((!decide (kcE (sel (cutB S C K m r) S) (sel (cutB S C K m r) C) (sel (cutB S C K m r) K) (selI (cutB S C K m r) (cutM S C m)) (selI (cutB S C K m r) r) = (0 : Int))) = true) → ((true = false) ∧ (True))) ∧ (((!decide (kcE (sel (cutB S C K m r) S) (sel (cutB S C K m r) C) (sel (cutB S C K m r) K) (selI (cutB S C K m r) (cutM S C m)) (selI (cutB S C K m r) r) = (0 : Int))) = false) → (((decide (m ≤ selI (cutB S C K m r) (cutM S C m)) = true) → ((true = false) ∧ (True))) ∧ ((decide (m ≤ selI (cutB S C K m r) (cutM S C m)) = false) → ((decide (kcE S C K (IntKind.i64.wrap (selI (cutB S C K m r) (cutM S C m) + (1 : Int))) r = (100 : Int)) = true) ∧ (True))))))))))))))))) ∧ ((decide ((0 : Int) ≤ wo S C K m r (wK S C m - (500 : Int))) = false) → (((decide ((0 : Int) ≤ wo S C K m r (wK S C m - (500 : Int))) = true) → (((cutB S C K m r = true) → (Ob ((((sel (cutB S C K m r) S = S) ∧ ((sel (cutB S C K m r) C = C) ∧ (sel (cutB S C K m r) K = K))) ∧ (tclP (sel (cutB S C K m r) S) (sel (cutB S C K m r) C) (sel (cutB S C K m r) K)))) ∧ (((decide (selI (cutB S C K m r) (cutM S C m) = m) && decide (selI (cutB S C K m r) r = r)) = true) ∧ (True)))) ∧ ((cutB S C K m r = false) → ((true = false) ∧ (True))))) ∧ ((decide ((0 : Int) ≤ wo S C K m r (wK S C m - (500 : Int))) = false) → (Ob ((tclP S C K)) ∧ ((((!cutB S C K m r) = true) → (((decide (kcE S C K (0 : Int) r = (100 : Int)) = true) → ((decide ((↑(sel (cutB S C K m r) S).length : Int) = (0 : Int)) = true) ∧ (True))) ∧ ((decide (kcE S C K (0 : Int) r = (100 : Int)) = false) → ((true = false) ∧ (True))))) ∧ (((!cutB S C K m r) = false) → (Ob ((((sel (cutB S C K m r) S = S) ∧ ((sel (cutB S C K m r) C = C) ∧ (sel (cutB S C K m r) K = K))) ∧ (tclP (sel (cutB S C K m r) S) (sel (cutB S C K m r) C) (sel (cutB S C K m r) K)))) ∧ ((((!(decide (selI (cutB S C K m r) (cutM S C m) = selI (cutB S C K m r) (cutM S C m)) && decide (selI (cutB S C K m r) r = r))) = true) → ((true = false) ∧ (True))) ∧ (((!(decide (selI (cutB S C K m r) (cutM S C m) = selI (cutB S C K m r) (cutM S C m)) && decide (selI (cutB S C K m r) r = r))) = false) → ((((!decide (kcE (sel (cutB S C K m r) S) (sel (cutB S C K m r) C) (sel (cutB S C K m r) K) (selI (cutB S C K m r) (cutM S C m)) (selI (cutB S C K m r) r) = (0 : Int))) = true) → ((true = false) ∧ (True))) ∧ (((!decide (kcE (sel (cutB S C K m r) S) (sel (cutB S C K m r) C) (sel (cutB S C K m r) K) (selI (cutB S C K m r) (cutM S C m)) (selI (cutB S C K m r) r) = (0 : Int))) = false) → (((decide (m ≤ selI (cutB S C K m r) (cutM S C m)) = true) → ((true = false) ∧ (True))) ∧ ((decide (m ≤ selI (cutB S C K m r) (cutM S C m)) = false) → ((decide (kcE S C K (IntKind.i64.wrap (selI (cutB S C K m r) (cutM S C m) + (1 : Int))) r = (100 : Int)) = true) ∧ (True))))))))))))))))))))))))))))))))) := by kernel_rfl
theorem tx1_max {b : List SV} {i : Int} {t : Int × Int × Int} : ∀ k, t.1 ≤ (tx1 b i t k).1 ∧ ∀ j, j < k → bd b j 1 ≤ (tx1 b i t k).1
  | 0 => ⟨Int.le_refl _, fun j h => by omega⟩
  | k + 1 => by
    obtain ⟨a, c⟩ := tx1_max (b := b) (i := i) (t := t) k
    simp only [tx1]
    split
    · refine ⟨by dsimp only; omega, fun j h => ?_⟩
      dsimp only
      rcases Nat.lt_or_ge j k with h1 | h1
      · have := c j h1; omega
      · rw [show j = k by omega]; exact Int.le_refl _
    · refine ⟨a, fun j h => ?_⟩
      rcases Nat.lt_or_ge j k with h1 | h1
      · exact c j h1
      · rw [show j = k by omega]; omega
theorem tx1_mem {b : List SV} {i : Int} {t : Int × Int × Int} : ∀ k, tx1 b i t k = t ∨ ∃ j, j < k ∧ tx1 b i t k = (bd b j 1, i, (j : Int))
  | 0 => .inl rfl
  | k + 1 => by
    simp only [tx1]
    split
    · exact .inr ⟨k, by omega, rfl⟩
    · rcases tx1_mem (b := b) (i := i) (t := t) k with h | ⟨j, h1, h2⟩
      · exact .inl h
      · exact .inr ⟨j, by omega, h2⟩
theorem txN_max {S : List SV} {m : Int} : ∀ n, m ≤ (txN S m n).1 ∧ ∀ i, i < n → ∀ j, j < (sch S i).length → bd (sch S i) j 1 ≤ (txN S m n).1
  | 0 => ⟨Int.le_refl _, fun i h => by omega⟩
  | n + 1 => by
    obtain ⟨a, c⟩ := txN_max (S := S) (m := m) n
    obtain ⟨d, e⟩ := tx1_max (b := sch S n) (i := (n : Int)) (t := txN S m n) (sch S n).length
    simp only [txN]
    refine ⟨by omega, fun i h j hj => ?_⟩
    rcases Nat.lt_or_ge i n with h1 | h1
    · have := c i h1 j hj; omega
    · have e1 : i = n := by omega
      subst e1; exact e j hj
theorem txN_mem {S : List SV} {m : Int} : ∀ n, txN S m n = (m, -1, -1) ∨ ∃ i, i < n ∧ ∃ j, j < (sch S i).length ∧ txN S m n = (bd (sch S i) j 1, (i : Int), (j : Int))
  | 0 => .inl rfl
  | n + 1 => by
    simp only [txN]
    rcases tx1_mem (b := sch S n) (i := (n : Int)) (t := txN S m n) (sch S n).length with h | ⟨j, h1, h2⟩
    · rw [h]
      rcases txN_mem (S := S) (m := m) n with h | ⟨i, h1, h2⟩
      · exact .inl h
      · exact .inr ⟨i, by omega, h2⟩
    · exact .inr ⟨n, by omega, j, h1, h2⟩
theorem tx_lim {S : List SV} {x : Int} (hx : 0 ≤ x) : x ≤ (txS S x).1 ∧ (txS S 0).1 ≤ (txS S x).1 ∧ ((txS S x).1 = x ∨ (txS S x).1 = (txS S 0).1) := by
  obtain ⟨a1, a2⟩ := txN_max (S := S) (m := x) S.length
  obtain ⟨b1, b2⟩ := txN_max (S := S) (m := 0) S.length
  have h0 : (txS S 0).1 ≤ (txS S x).1 := by
    unfold txS
    rcases txN_mem (S := S) (m := 0) S.length with e | ⟨i, hi, j, hj, e⟩
    · rw [e]; exact Int.le_trans hx a1
    · rw [e]; exact a2 i hi j hj
  refine ⟨a1, h0, ?_⟩
  rcases txN_mem (S := S) (m := x) S.length with e | ⟨i, hi, j, hj, e⟩
  · left; unfold txS; rw [e]
  · right
    have := b2 i hi j hj
    have e2 : (txS S x).1 = bd (sch S i) j 1 := by unfold txS; rw [e]
    have e3 : bd (sch S i) j 1 ≤ (txS S 0).1 := this
    omega
theorem tx_neg {S : List SV} {m : Int} (h : (txS S m).2.1 < 0) : (txS S m).1 = m := by
  unfold txS at *
  rcases txN_mem (S := S) (m := m) S.length with e | ⟨i, hi, j, hj, e⟩
  · rw [e]
  · rw [e] at h; exact absurd h (by show ¬ (i : Int) < 0; omega)
theorem tab_lim {S C K : List SV} {m r x : Int} (h : tabE S C K m r = 0) (hx : 0 ≤ x ∧ x ≤ 10000) : tabE S C K x r = 0 := by
  unfold tabE at *
  split at h
  · cases h
  · rw [if_neg (by rw [rateB_iff.2 hx]; decide)]
    exact h
theorem kc_lim {S C K : List SV} {m r x : Int} (h : tabE S C K m r = 0) (hx : 0 ≤ x ∧ x ≤ 10000) : kcE S C K x r = if 10000 - (txS S x).1 - ctTop C C.length < 500 then 100 else 0 := by
  unfold kcE
  rw [if_neg (by rw [tab_lim h hx]; decide)]
  unfold wK
  split <;> split <;> first | rfl | omega
theorem lnN_len (C : List SV) (h : List UInt8) : ∀ n, (lnN C h n).length = n + 1
  | 0 => rfl
  | n + 1 => by rw [lnN, List.length_append, lnN_len C h n]; rfl
theorem tab_nm {S C K : List SV} {m r : Int} (h : tabE S C K m r = 0) : ∀ i, i < C.length → (enm C i).length ≤ 16 := by
  unfold tabE at h
  split at h
  · cases h
  split at h
  · cases h
  split at h
  · rename_i hc; exact absurd h hc
  split at h
  · rename_i hc; exact absurd h hc
  rename_i hC
  have hC : conE C = 0 := by omega
  unfold conE at hC
  split at hC
  · cases hC
  intro i hi
  have h1 : conOne C i = 0 := fstE_zero hC i hi
  unfold conOne at h1
  split at h1
  · cases h1
  rename_i h2
  have h3 : nmB (enm C i) = true := by simpa using h2
  unfold nmB at h3
  simp only [Bool.and_eq_true, decide_eq_true_eq] at h3
  exact h3.1.2
theorem wC_get (C : List SV) : ∀ n k, k < n → (wC C n).getD k .any = .int .i64 (mxN (ctB C k) (ctB C k).length)
  | 0, k, h => absurd h (Nat.not_lt_zero _)
  | n + 1, k, h => by
    rw [wC]
    rcases Nat.lt_or_ge k n with h1 | h1
    · rw [List.getD_eq_getElem?_getD, List.getElem?_append_left (by rw [wC_len]; exact h1), ← List.getD_eq_getElem?_getD, wC_get C n k h1]
    · rw [show k = n by omega, List.getD_eq_getElem?_getD, List.getElem?_append_right (by rw [wC_len]; omega), wC_len]; simp
theorem wo_ok {S C K : List SV} {m r : Int} (h : tabE S C K m r = 0) (x : Int) : wo S C K m r x = x := by unfold wo; rw [if_pos h]
theorem tx_at {S : List SV} {m : Int} (h : 0 ≤ (txS S m).2.1) : ∃ i, i < S.length ∧ ∃ j, j < (sch S i).length ∧ (txS S m).2.1 = (i : Int) ∧ (txS S m).2.2 = (j : Int) := by
  unfold txS at *
  rcases txN_mem (S := S) (m := m) S.length with e | ⟨i, hi, j, hj, e⟩
  · rw [e] at h; exact absurd h (by show ¬ (0 : Int) ≤ -1; omega)
  · exact ⟨i, hi, j, hj, by rw [e], by rw [e]⟩
theorem ln_at {S : List SV} {m : Int} (h : 0 ≤ (txS S m).2.1) {i j : Nat} (e1 : (txS S m).2.1 = (i : Int)) (e2 : (txS S m).2.2 = (j : Int)) : lnH S m = (([115, 99, 104, 101, 109, 101, 32] ++ Lib.itoa i) ++ [32, 98, 97, 110, 100, 32]) ++ Lib.itoa j ∧ lnR S m = bd (sch S i) j 1 := by
  unfold lnH lnR
  rw [if_pos h, if_pos h, e1, e2]
  exact ⟨rfl, rfl⟩
theorem ln_in {S C K : List SV} {m r : Int} (h : tabE S C K m r = 0) : (lnH S m).length ≤ 40 ∧ 0 ≤ lnR S m ∧ lnR S m ≤ 10000 := by
  obtain ⟨hm, s1, s2, c1, k1, hS, hC⟩ := tab_in h
  by_cases h1 : 0 ≤ (txS S m).2.1
  · obtain ⟨i, hi, j, hj, e1, e2⟩ := tx_at h1
    obtain ⟨a, b⟩ := ln_at h1 e1 e2
    have hl := (check_zero (hS i hi)).2.1
    have := bd_rate (hS i hi) hj
    have l1 := itoa_len (n := (i : Int)) (by omega)
    have l2 := itoa_len (n := (j : Int)) (by omega)
    rw [a, b]
    refine ⟨?_, this⟩
    simp only [List.length_append, List.length_cons, List.length_nil]
    omega
  · unfold lnH lnR
    rw [if_neg h1, if_neg h1]
    exact ⟨by decide, hm⟩
theorem klines_known : Known Tryd.prog 8 klinesC := by
  refine known1 (nt := 88) (An := fun (S, C, K, m, r) => (kl_an S C K m r)) (labs := []) (lit := false) (em := em_klines) sh_klines_le (by kernel_rfl) mixedT tyT_ok (.cons kworst_known (.cons itoa_known .nil)) Tryd.func8 (by kernel_rfl) (fun a => by obtain ⟨S, C, K, m, r⟩ := a; kernel_rfl) (fun a => by obtain ⟨S, C, K, m, r⟩ := a; rfl) (fun a ha => ?_)
  obtain ⟨S, C, K, m, r⟩ := a
  refine ⟨_, vc_klines S C K m r, ?_⟩
  simp only [Int.reduceLE, Int.reduceLT, Int.reduceEq, Int.reduceNe, Nat.reduceLeDiff, Nat.reduceEqDiff, beq_eq_false_iff_ne, beq_iff_eq, decide_eq_decide, ne_eq, eq_self, true_and, and_true, and_self, and_false, false_and, Bool.not_true, Bool.not_false, Bool.false_eq_true, Bool.true_eq_false, false_implies, true_implies, implies_true, imp_false, not_true, not_false_eq_true, decide_eq_true_eq, decide_eq_false_iff_not, Bool.not_eq_true', Bool.not_eq_false', Bool.and_eq_true, Classical.not_not, decide_true, decide_false, Bool.and_true, Bool.true_and, if_true, if_false, Ob_iff]
  refine ⟨⟨fun h => by unfold lnS; rw [if_neg h], fun h => ?_⟩, fun _ h => ?_⟩
  · obtain ⟨hm, s1, s2, c1, k1, hS, hC⟩ := tab_in h
    have eD : wD S C K m r = wC C C.length := by unfold wD; rw [if_pos h]
    rw [wo_ok h (txS S m).2.1, wo_ok h (txS S m).2.2, wo_ok h (wK S C m), eD]
    refine ⟨fun h1 => ?_, fun h1 => ⟨(), by unfold lnH; rw [if_neg h1], by unfold lnR; rw [if_neg h1], rfl, rfl, rfl, rfl, h⟩⟩
    obtain ⟨i, hi, j, hj, e1, e2⟩ := tx_at h1
    obtain ⟨a, b⟩ := ln_at h1 e1 e2
    have hl := (check_zero (hS i hi)).2.1
    have l1 := itoa_len (n := (i : Int)) (by omega)
    have l2 := itoa_len (n := (j : Int)) (by omega)
    rw [e1, e2, a, b]
    refine ⟨by unfold in64; omega, by omega, ?_, by unfold in64; omega, ?_, by omega, ⟨by omega, by show (j : Int) < ((sch S i).length : Int); omega⟩, (), rfl, rfl, rfl, rfl, rfl, rfl, h⟩
    · simp only [List.length_append, List.length_cons, List.length_nil]; omega
    · simp only [List.length_append, List.length_cons, List.length_nil]; omega
  · obtain ⟨hm, s1, s2, c1, k1, hS, hC⟩ := tab_in h
    obtain ⟨hH, hR1, hR2⟩ := ln_in h
    have l1 := itoa_len (n := lnR S m) (by omega)
    have wl := wC_len C C.length
    have hwk := wK_in h
    refine ⟨by omega, by unfold in64; omega, by simp only [List.length_append, List.length_cons, List.length_nil]; omega, ⟨0, by rw [wl], rfl, rfl, by omega, h⟩, fun i ⟨i1, _⟩ => ⟨fun h1 => ?_, fun h1 => ?_⟩⟩
    · have ek : (elCell (wC C C.length) i 0).toInt = ((mxN (ctB C i) (ctB C i).length : Nat) : Int) := by
        unfold elCell
        rw [wC_get C _ i (by omega)]; rfl
      have hc := check_zero (hC i (by omega))
      have mx := mxN_lt (b := ctB C i) (ctB C i).length (by omega)
      have hr := bd_rate (hC i (by omega)) mx
      have nm := tab_nm h i (by omega)
      have nl := lnN_len C (lnT S m) i
      have l2 := itoa_len (n := ((mxN (ctB C i) (ctB C i).length : Nat) : Int)) (by omega)
      have l3 := itoa_len (n := bd (ctB C i) (mxN (ctB C i) (ctB C i).length) 1) (by omega)
      refine ⟨by omega, by omega, by show (enm C i).length ≤ 9223372036854775801; omega, by rw [ek]; unfold in64; omega, ?_, ?_, ?_, ?_, ?_, by omega, i + 1, by rw [wrapI (by omega)]; rfl, rfl, ⟨by omega, h⟩, by omega⟩
      · rw [ek]
        show (enm C i ++ _).length + _ ≤ 9223372036854775807
        simp only [List.length_append, List.length_cons, List.length_nil]; omega
      · rw [ek]
        show (enm C i ++ _ ++ _).length ≤ 9223372036854775806
        simp only [List.length_append, List.length_cons, List.length_nil]; omega
      · rw [ek]
        show 0 ≤ _ ∧ _ < ((ctB C i).length : Int)
        omega
      · rw [ek]
        show in64 (bd (ctB C i) (mxN (ctB C i) (ctB C i).length) 1)
        unfold in64; omega
      · rw [ek]
        show (enm C i ++ _ ++ _ ++ _).length + (Lib.itoa (bd (ctB C i) (mxN (ctB C i) (ctB C i).length) 1)).length ≤ 9223372036854775807
        simp only [List.length_append, List.length_cons, List.length_nil]; omega
    · have nl := lnN_len C (lnT S m) i
      have l2 := itoa_len (n := wK S C m) (by omega)
      exact ⟨by unfold in64; omega, by omega, by omega, by unfold lnS; rw [if_pos h, show i = C.length by omega]⟩

theorem lcuts_known : Known Tryd.prog 3 lcutsC := by
  refine known1 (nt := 169) (An := fun (S, C, K, m, r) => noAnn) (labs := []) (lit := false) (em := em_lcuts) sh_lcuts_le (by kernel_rfl) mixedT tyT_ok (.cons lkeeps_known (.cons lsmall_known (.cons kcut_known (.cons kroom_known (.cons klines_known (.cons tcheck_known (.cons kworst_known (.cons kcheck_known (.cons tclone_known (.cons tsame_known .nil)))))))))) Tryd.func3 (by kernel_rfl) (fun a => by obtain ⟨S, C, K, m, r⟩ := a; kernel_rfl) (fun a => by obtain ⟨S, C, K, m, r⟩ := a; rfl) (fun a ha => ?_)
  obtain ⟨S, C, K, m, r⟩ := a
  replace ha : wfL [.sl [.int .i64, .int .i64, .int .i64]] S ∧ wfL [.str, .int .i64, .sl [.int .i64, .int .i64, .int .i64], .int .i64, .int .i64, .int .i64] C ∧ wfL [.str, .int .i64, .int .i64, .int .i64] K ∧ in64 m ∧ in64 r := ha.out
  refine ⟨_, vc_lcuts S C K m r, ?_⟩
  obtain ⟨wS, wC_, wK_, hm_, hr_⟩ := ha
  simp only [Int.reduceLE, Int.reduceLT, Int.reduceEq, Int.reduceNe, Nat.reduceLeDiff, Nat.reduceEqDiff, beq_eq_false_iff_ne, beq_iff_eq, decide_eq_decide, ne_eq, eq_self, true_and, and_true, and_self, and_false, false_and, Bool.not_true, Bool.not_false, Bool.false_eq_true, Bool.true_eq_false, false_implies, true_implies, implies_true, imp_false, not_true, not_false_eq_true, decide_eq_true_eq, decide_eq_false_iff_not, Bool.not_eq_true', Bool.not_eq_false', Bool.and_eq_true, Classical.not_not, decide_true, decide_false, Bool.and_true, Bool.true_and, if_true, if_false, Ob_iff]
  intro _
  have hw : wfL [.sl bandK] S ∧ wfL ctK C ∧ wfL kdK K := ⟨wS, wC_, wK_⟩
  refine ⟨hw, fun h => ?_, fun h => ⟨h, fun _ => ?_⟩⟩
  · have eB : cutB S C K m r = false := by unfold cutB; simp [h]
    have eL : lnS S C K m r = [] := by unfold lnS; rw [if_neg h]
    have eW : wo S C K m r (wK S C m - 500) = 0 := by unfold wo; rw [if_neg h]
    rw [eB, eL, eW]
    exact ⟨fun _ => ⟨fun _ => ⟨fun _ => ⟨fun _ => rfl, rfl⟩, rfl⟩, rfl⟩, by decide⟩
  · have et := tcl_of hw h
    obtain ⟨hm, _, _, c1, _⟩ := tab_in h
    have hwk := wK_in h
    have hct := ctTop_in h C.length (Nat.le_refl _)
    have hT := fun x (hx : 0 ≤ x) => tx_lim (S := S) (x := x) hx
    have hk := fun x hx => kc_lim (x := x) h hx
    have hm0 := hT m hm.1
    have h00 := hT 0 (Int.le_refl _)
    have e0 : wK S C m = 10000 - (txS S m).1 - ctTop C C.length := rfl
    have ed : wo S C K m r (wK S C m - 500) = wK S C m - 500 := by unfold wo; rw [if_pos h]
    have ew : wo S C K m r (wK S C m) = wK S C m := by unfold wo; rw [if_pos h]
    have es : wo S C K m r (txS S m).2.1 = (txS S m).2.1 := by unfold wo; rw [if_pos h]
    have w1 : IntKind.i64.wrap (wK S C m - 500) = wK S C m - 500 := wrapI (by omega)
    have w2 : IntKind.i64.wrap ((C.length : Int) + 2) = (C.length : Int) + 2 := wrapI (by omega)
    have w3 : IntKind.i64.wrap (m + (wK S C m - 500)) = m + (wK S C m - 500) := wrapI (by omega)
    have w4 : IntKind.i64.wrap (m + (wK S C m - 500) + 1) = m + (wK S C m - 500) + 1 := wrapI (by omega)
    rw [ed, ew, es, w1, w2, w3, w4]
    generalize hd : wK S C m - 500 = d
    have eL : ((lnS S C K m r).length : Int) = (C.length : Int) + 2 := by
      unfold lnS
      rw [if_pos h, List.length_append, lnN_len, List.length_singleton]; omega
    have hkm := hk m hm
    refine ⟨rfl, fun _ => ⟨?_, fun _ => ⟨eL, fun _ => ⟨et, ?_⟩⟩⟩⟩
    · rw [hkm]
      split <;> constructor <;> intro h1 <;> first | rfl | omega
    by_cases hp : 0 ≤ d
    · have hM : cutM S C m = m := by unfold cutM; rw [if_neg (by omega)]
      have hkz : kcE S C K m r = 0 := by rw [hkm, if_neg (by omega)]
      have hB : cutB S C K m r = true := by unfold cutB; rw [hM, h, hkz]; rfl
      rw [hB, hM]
      refine ⟨fun _ => ⟨fun hs => ?_, fun _ => ⟨fun _ => ⟨fun _ => ⟨⟨⟨rfl, rfl, rfl⟩, et⟩, rfl, rfl⟩, by decide⟩, fun h => absurd hp h⟩⟩, fun h => absurd hp h⟩
      have hs2 := tx_neg hs
      have hk1 := hk (m + d) (by omega)
      have hT1 := hT (m + d) (by omega)
      rw [if_neg (by omega)] at hk1
      refine ⟨hk1, fun _ => ⟨fun h1 => ?_, fun _ => ⟨fun _ => ⟨fun _ => ⟨⟨⟨rfl, rfl, rfl⟩, et⟩, rfl, rfl⟩, by decide⟩, fun h => absurd hp h⟩⟩⟩
      have hk2 := hk (m + d + 1) (by omega)
      have hT2 := hT (m + d + 1) (by omega)
      rw [if_pos (by omega)] at hk2
      exact ⟨hk2, fun _ => ⟨fun _ => ⟨fun _ => ⟨⟨⟨rfl, rfl, rfl⟩, et⟩, rfl, rfl⟩, by decide⟩, fun h => absurd hp h⟩⟩
    · have hMv : (cutM S C m = 0 ∧ m + d ≤ 0) ∨ (cutM S C m = m + d ∧ 0 ≤ m + d) := by
        unfold cutM
        rw [if_pos (by omega), hd]
        unfold maxV
        split
        · right; exact ⟨rfl, by omega⟩
        · left; exact ⟨rfl, by omega⟩
      have hkM := hk (cutM S C m) (by omega)
      have hTM := hT (cutM S C m) (by omega)
      have hcB : cutB S C K m r = decide (kcE S C K (cutM S C m) r = 0) := by unfold cutB; rw [h]; rfl
      refine ⟨fun h => absurd h hp, fun _ => ⟨fun h => absurd h hp, fun _ => ⟨et, fun hB => ?_, fun hB => ?_⟩⟩⟩
      · have hk3 : ¬ kcE S C K (cutM S C m) r = 0 := by rw [hcB] at hB; simpa using hB
        rw [hB]
        refine ⟨fun _ => rfl, ?_⟩
        rw [hk 0 (by omega)]
        rw [hkM] at hk3
        split at hk3
        · rw [if_pos (by omega)]
        · exact absurd rfl hk3
      · have hk3 : kcE S C K (cutM S C m) r = 0 := by rw [hcB] at hB; simpa using hB
        have hk4 := hk3
        rw [hkM] at hk4
        split at hk4
        · cases hk4
        rename_i hk5
        have hT4 := hT (cutM S C m + 1) (by omega)
        have hk6 := hk (cutM S C m + 1) (by omega)
        rw [if_pos (by omega)] at hk6
        rw [hB]
        refine ⟨⟨⟨rfl, rfl, rfl⟩, et⟩, rfl, fun _ => ⟨hk3, fun _ => ⟨?_, fun _ => ?_⟩⟩⟩
        · show ¬ m ≤ cutM S C m
          omega
        · show kcE S C K (IntKind.i64.wrap (cutM S C m + 1)) r = 100
          rw [wrapI (by omega)]; exact hk6

end Go.Rx
