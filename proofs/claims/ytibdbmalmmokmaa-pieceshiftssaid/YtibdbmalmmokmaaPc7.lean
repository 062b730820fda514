/- Functions of straight pieces: the statements of the lesser one, and of shifted ones. -/
import Derived.Test.YtibdbmalmmokmaaPc6
namespace Go.Rx
open Go.Proofs
set_option linter.unusedSimpArgs false
set_option linter.unusedVariables false

def lql_sub (l m : List SV) (X : List Int) : Nat → Option Ann
  | 0 => some ⟨Nat, fun i => ⟨[(0, .sl lineK l), (1, .sl lineK m), (7, .sl lineK (lnSV (lstV (tri l) (tri m)))), (9, .sl lineK (lnSV (grtV (tri l) (tri m)))), (113, .sl zK (iSV X)), (114, .int .i64 X.length), (115, .int .i64 i)], []⟩, fun i => i ≤ X.length ∧ X.length ≤ 10000 ∧ (∀ x, x ∈ X → 0 ≤ x ∧ x ≤ 10000000000) ∧ chkT (tri l) = 0 ∧ chkT (tri m) = 0 ∧ lstE (tri l) (tri m) = 0 ∧ grtE (tri l) (tri m) = 0, fun i => X.length - i, [0, 1, 7, 9, 113, 114, 115], [], [], fun _ _ => none⟩
  | _ => none
def lql_an (l m : List SV) : Nat → Option Ann
  | 4018 => some ⟨List Int, fun X => ⟨[(0, .sl lineK l), (1, .sl lineK m), (7, .sl lineK (lnSV (lstV (tri l) (tri m)))), (9, .sl lineK (lnSV (grtV (tri l) (tri m)))), (13, .sl zK (iSV X))], []⟩, fun X => X.length ≤ 10000 ∧ (∀ x, x ∈ X → 0 ≤ x ∧ x ≤ 10000000000) ∧ chkT (tri l) = 0 ∧ chkT (tri m) = 0 ∧ lstE (tri l) (tri m) = 0 ∧ grtE (tri l) (tri m) = 0, fun _ => 0, [0, 1, 7, 9, 13], [], [(99999, 98, 0, [])], lql_sub l m⟩
  | _ => none
def lqs_sub (l : List SV) (b : Int) (X : List Int) : Nat → Option Ann
  | 2 => some ⟨Nat, fun i => ⟨[(0, .sl lineK l), (1, .int .i64 b), (7, .sl lineK (lnSV (shfV (tri l) b))), (134, .sl zK (iSV X)), (135, .int .i64 X.length), (136, .int .i64 i)], []⟩, fun i => i ≤ X.length ∧ X.length ≤ 10000 ∧ (∀ x, x ∈ X → 0 ≤ x ∧ x ≤ 10000000000) ∧ l.length ≤ 60 ∧ chkT (tri l) = 0 ∧ shfE (tri l) b = 0 ∧ 0 ≤ b ∧ b ≤ 10000000000, fun i => X.length - i, [0, 1, 7, 134, 135, 136], [], [], fun _ _ => none⟩
  | _ => none
def someN (L : List Ln) (v : Int) : Nat → Bool
  | 0 => false
  | i + 1 => if endT L i = (lnA L i).1 then someN L v i else someN L v i || decide ((lnA L i).2.2 = v)
def lqs_an (l : List SV) (b x : Int) : Nat → Option Ann
  | 0 => some ⟨Nat, fun i => ⟨[(0, .sl lineK l), (1, .int .i64 b), (2, .int .i64 x), (7, .sl lineK (lnSV (shfV (tri l) b))), (8, .int .i64 (shfE (tri l) b)), (10, .int .i64 (stN (tri l) l.length).1), (11, .int .i64 (stN (tri l) l.length).2.1), (12, .bool (someN (tri l) (stN (tri l) l.length).1 i)), (49, .sl lineK l), (50, .int .i64 l.length), (51, .int .i64 i)], []⟩, fun i => i ≤ l.length ∧ l.length ≤ 60 ∧ chkT (tri l) = 0, fun i => l.length - i, [0, 1, 2, 7, 8, 10, 11, 12, 49, 50, 51], [], [], fun _ _ => none⟩
  | 4024 => some ⟨Unit, fun _ => ⟨[(0, .sl lineK l), (1, .int .i64 b), (2, .int .i64 x), (7, .sl lineK (lnSV (shfV (tri l) b))), (8, .int .i64 (shfE (tri l) b))], []⟩, fun _ => l.length ≤ 60 ∧ chkT (tri l) = 0, fun _ => 0, [0, 1, 2, 7, 8], [], [], fun _ _ => none⟩
  | 4031 => some ⟨List Int, fun X => ⟨[(0, .sl lineK l), (1, .int .i64 b), (7, .sl lineK (lnSV (shfV (tri l) b))), (16, .sl zK (iSV X))], []⟩, fun X => X.length ≤ 10000 ∧ (∀ x, x ∈ X → 0 ≤ x ∧ x ≤ 10000000000) ∧ l.length ≤ 60 ∧ chkT (tri l) = 0 ∧ shfE (tri l) b = 0 ∧ 0 ≤ b ∧ b ≤ 10000000000, fun _ => 0, [0, 1, 7, 16], [], [(99999, 123, 0, [])], lqs_sub l b⟩
  | _ => none

def sh_lql : List SV → Option ((List SV) × (List SV) × Int)
  | [l', m', .int .i64 x] => (match slOf [.int .i64, .int .i64, .int .i64] l' with | some l => (match slOf [.int .i64, .int .i64, .int .i64] m' with | some m => some (l, m, x) | _ => none) | _ => none)
  | _ => none
def em_lql : (List SV) × (List SV) × Int → List SV := fun (l, m, x) => [.sl [.int .i64, .int .i64, .int .i64] l, .sl [.int .i64, .int .i64, .int .i64] m, .int .i64 x]
theorem sh_lql_le : ∀ us a, sh_lql us = some a → leL us (em_lql a) := by
  intro us a h
  unfold sh_lql at h
  split at h
  · split at h
    · split at h
      · cases h; exact (.cons (.sl (by assumption)) (.cons (.sl (by assumption)) (.cons (.refl _) .nil)))
      · cases h
    · cases h
  · cases h
def lqlC : Con := conOf sh_lql (fun (l, m, x) => some (Ob (wfL [.int .i64, .int .i64, .int .i64] l ∧ wfL [.int .i64, .int .i64, .int .i64] m ∧ in64 x))) (fun (l, m, x) => .bool true)
set_option maxRecDepth 100000 in
theorem vc_lql (l : List SV) (m : List SV) (x : Int) : (wpF ⟨150, tyT, [(9, qgoesC), (16, leastC), (17, greatestC), (10, qwrongC), (15, qnearC), (13, qatC)], false, 0, [], false⟩ ((lql_an l m)) [] Try.f5 (em_lql (l, m, x)) (.bool true)) = ((((((!true) = true) → ((true = false) ∧ (True))) ∧ (((!true) = false) → (((decide ((60 : Int) < (↑l.length : Int)) = true) → ((true = true) ∧ (True))) ∧ ((decide ((60 : Int) < (↑l.length : Int)) = false) → (((decide ((60 : Int) < (↑m.length : Int)) = true) → ((true = true) ∧ (True))) ∧ ((decide ((60 : Int) < (↑m.length : Int)) = false) → ((((!decide (chkT (tri l) = (0 : Int))) = true) → (((decide (lstE (tri l) (tri m) = chkT (tri l)) = true) → (((decide (grtE (tri l) (tri m) = chkT (tri l)) = true) → (((decide ((↑(lnSV (lstV (tri l) (tri m))).length : Int) = (0 : Int)) = true) → ((decide ((↑(lnSV (grtV (tri l) (tri m))).length : Int) = (0 : Int)) = true) ∧ (True))) ∧ ((decide ((↑(lnSV (lstV (tri l) (tri m))).length : Int) = (0 : Int)) = false) → ((true = false) ∧ (True))))) ∧ ((decide (grtE (tri l) (tri m) = chkT (tri l)) = false) → ((true = false) ∧ (True))))) ∧ ((decide (lstE (tri l) (tri m) = chkT (tri l)) = false) → ((true = false) ∧ (True))))) ∧ (((!decide (chkT (tri l) = (0 : Int))) = false) → ((((!decide (chkT (tri m) = (0 : Int))) = true) → (((decide (lstE (tri l) (tri m) = chkT (tri m)) = true) → (((decide (grtE (tri l) (tri m) = chkT (tri m)) = true) → (((decide ((↑(lnSV (lstV (tri l) (tri m))).length : Int) = (0 : Int)) = true) → ((decide ((↑(lnSV (grtV (tri l) (tri m))).length : Int) = (0 : Int)) = true) ∧ (True))) ∧ ((decide ((↑(lnSV (lstV (tri l) (tri m))).length : Int) = (0 : Int)) = false) → ((true = false) ∧ (True))))) ∧ ((decide (grtE (tri l) (tri m) = chkT (tri m)) = false) → ((true = false) ∧ (True))))) ∧ ((decide (lstE (tri l) (tri m) = chkT (tri m)) = false) → ((true = false) ∧ (True))))) ∧ (((!decide (chkT (tri m) = (0 : Int))) = false) → ((((!decide (lstE (tri l) (tri m) = (0 : Int))) = true) → (((decide (lstE (tri l) (tri m) = (2 : Int)) = true) → ((true = true) ∧ (True))) ∧ ((decide (lstE (tri l) (tri m) = (2 : Int)) = false) → ((decide (grtE (tri l) (tri m) = (2 : Int)) = true) ∧ (True))))) ∧ (((!decide (lstE (tri l) (tri m) = (0 : Int))) = false) → ((((!decide (grtE (tri l) (tri m) = (0 : Int))) = true) → (((decide (lstE (tri l) (tri m) = (2 : Int)) = true) → ((true = true) ∧ (True))) ∧ ((decide (lstE (tri l) (tri m) = (2 : Int)) = false) → ((decide (grtE (tri l) (tri m) = (2 : Int)) = true) ∧ (True))))) ∧ (((!decide (grtE (tri l) (tri m) = (0 : Int))) = false) → (Ob ((((l ++ m).length ≤ (10000 : Nat)) ∧ (goodL (tri l ++ tri m)))) ∧ (Ob ((((lnSV (lstV (tri l) (tri m)) ++ lnSV (grtV (tri l) (tri m))).length ≤ (10000 : Nat)) ∧ (goodL (tri (lnSV (lstV (tri l) (tri m))) ++ tri (lnSV (grtV (tri l) (tri m))))))) ∧ (Ob (((((iSV (nearT (tri l) (tri m))).length + (iSV (nearT (tri (lnSV (lstV (tri l) (tri m)))) (tri (lnSV (grtV (tri l) (tri m)))))).length) * (8 : Nat) ≤ (1099511627776 : Nat)) ∧ ((iSV (nearT (tri l) (tri m))).length + (iSV (nearT (tri (lnSV (lstV (tri l) (tri m)))) (tri (lnSV (grtV (tri l) (tri m)))))).length ≤ (1099511627776 : Nat)))) ∧ (((decide ((0 : Int) ≤ x) = true) → (((decide (x ≤ (10000000000 : Int)) = true) → (Ob (((((iSV (nearT (tri l) (tri m)) ++ iSV (nearT (tri (lnSV (lstV (tri l) (tri m)))) (tri (lnSV (grtV (tri l) (tri m)))))).length + (1 : Nat)) * (8 : Nat) ≤ (1099511627776 : Nat)) ∧ ((iSV (nearT (tri l) (tri m)) ++ iSV (nearT (tri (lnSV (lstV (tri l) (tri m)))) (tri (lnSV (grtV (tri l) (tri m)))))).length + (1 : Nat) ≤ (1099511627776 : Nat)))) ∧ (∃ (x1 : List Int), ((l = l) ∧ ((m = m) ∧ ((lnSV (lstV (tri l) (tri m)) = lnSV (lstV (tri l) (tri m))) ∧ ((lnSV (grtV (tri l) (tri m)) = lnSV (grtV (tri l) (tri m))) ∧ ((iSV (nearT (tri l) (tri m)) ++ iSV (nearT (tri (lnSV (lstV (tri l) (tri m)))) (tri (lnSV (grtV (tri l) (tri m))))) ++ [SV.int IntKind.i64 x] = iSV x1) ∧ (((x1.length ≤ (10000 : Nat)) ∧ ((∀ (x2 : Int), ((x2 ∈ x1) → (((0 : Int) ≤ x2) ∧ (x2 ≤ (10000000000 : Int))))) ∧ ((chkT (tri l) = (0 : Int)) ∧ ((chkT (tri m) = (0 : Int)) ∧ ((lstE (tri l) (tri m) = (0 : Int)) ∧ (grtE (tri l) (tri m) = (0 : Int))))))) ∧ ((True) ∧ (True))))))))))) ∧ ((decide (x ≤ (10000000000 : Int)) = false) → (∃ (x3 : List Int), ((l = l) ∧ ((m = m) ∧ ((lnSV (lstV (tri l) (tri m)) = lnSV (lstV (tri l) (tri m))) ∧ ((lnSV (grtV (tri l) (tri m)) = lnSV (grtV (tri l) (tri m))) ∧ ((iSV (nearT (tri l) (tri m)) ++ iSV (nearT (tri (lnSV (lstV (tri l) (tri m)))) (tri (lnSV (grtV (tri l) (tri m))))) = iSV x3) ∧ (((x3.length ≤ (10000 : Nat)) ∧ ((∀ (x4 : Int), ((x4 ∈ x3) → (((0 : Int) ≤ x4) ∧ (x4 ≤ (10000000000 : Int))))) ∧ ((chkT (tri l) = (0 : Int)) ∧ ((chkT (tri m) = (0 : Int)) ∧ ((lstE (tri l) (tri m) = (0 : Int)) ∧ (grtE (tri l) (tri m) = (0 : Int))))))) ∧ ((True) ∧ (True)))))))))))) ∧ ((decide ((0 : Int) ≤ x) = false) → (∃ (x5 : List Int), ((l = l) ∧ ((m = m) ∧ ((lnSV (lstV (tri l) (tri m)) = lnSV (lstV (tri l) (tri m))) ∧ ((lnSV (grtV (tri l) (tri m)) = lnSV (grtV (tri l) (tri m))) ∧ ((iSV (nearT (tri l) (tri m)) ++ iSV (nearT (tri (lnSV (lstV (tri l) (tri m)))) (tri (lnSV (grtV (tri l) (tri m))))) = iSV x5) ∧ (((x5.length ≤ (10000 : Nat)) ∧ ((∀ (x6 : Int), ((x6 ∈ x5) → (((0 : Int) ≤ x6) ∧ (x6 ≤ (10000000000 : Int))))) ∧ ((chkT (tri l) = (0 : Int)) ∧ ((chkT (tri m) = (0 : Int)) ∧ ((lstE (tri l) (tri m) = (0 : Int)) ∧ (grtE (tri l) (tri m) = (0 : Int))))))) ∧ ((True) ∧ (True)))))))))))))))))))))))))))) ∧ (∀ (x7 : List Int), (((x7.length ≤ (10000 : Nat)) ∧ ((∀ (x8 : Int), ((x8 ∈ x7) → (((0 : Int) ≤ x8) ∧ (x8 ≤ (10000000000 : Int))))) ∧ ((chkT (tri l) = (0 : Int)) ∧ ((chkT (tri m) = (0 : Int)) ∧ ((lstE (tri l) (tri m) = (0 : Int)) ∧ (grtE (tri l) (tri m) = (0 : Int))))))) → ((∃ (x9 : Nat), ((l = l) ∧ ((m = m) ∧ ((lnSV (lstV (tri l) (tri m)) = lnSV (lstV (tri l) (tri m))) ∧ ((lnSV (grtV (tri l) (tri m)) = lnSV (grtV (tri l) (tri m))) ∧ ((iSV x7 = iSV x7) ∧ (((↑(iSV x7).length : Int) = (↑x7.length : Int)) ∧ (((0 : Int) = (↑x9 : Int)) ∧ (((x9 ≤ x7.length) ∧ ((x7.length ≤ (10000 : Nat)) ∧ ((∀ (x10 : Int), ((x10 ∈ x7) → (((0 : Int) ≤ x10) ∧ (x10 ≤ (10000000000 : Int))))) ∧ ((chkT (tri l) = (0 : Int)) ∧ ((chkT (tri m) = (0 : Int)) ∧ ((lstE (tri l) (tri m) = (0 : Int)) ∧ (grtE (tri l) (tri m) = (0 : Int)))))))) ∧ ((True) ∧ (True))))))))))) ∧ (∀ (x11 : Nat), (((x11 ≤ x7.length) ∧ ((x7.length ≤ (10000 : Nat)) ∧ ((∀ (x12 : Int), ((x12 ∈ x7) → (((0 : Int) ≤ x12) ∧ (x12 ≤ (10000000000 : Int))))) ∧ ((chkT (tri l) = (0 : Int)) ∧ ((chkT (tri m) = (0 : Int)) ∧ ((lstE (tri l) (tri m) = (0 : Int)) ∧ (grtE (tri l) (tri m) = (0 : Int)))))))) → (((decide ((↑x11 : Int) < (↑x7.length : Int)) = true) → (Ob ((((0 : Int) ≤ (↑x11 : Int)) ∧ ((↑x11 : Int) < (↑(iSV x7).length : Int)))) ∧ (Ob (((l.length ≤ (100000 : Nat)) ∧ ((goodL (tri l)) ∧ (((-1 : Int) ≤ (elCell (iSV x7) x11 (0 : Nat)).toInt) ∧ ((elCell (iSV x7) x11 (0 : Nat)).toInt ≤ (10000000000 : Int)))))) ∧ (Ob (((m.length ≤ (100000 : Nat)) ∧ ((goodL (tri m)) ∧ (((-1 : Int) ≤ (elCell (iSV x7) x11 (0 : Nat)).toInt) ∧ ((elCell (iSV x7) x11 (0 : Nat)).toInt ≤ (10000000000 : Int)))))) ∧ (Ob ((((lnSV (lstV (tri l) (tri m))).length ≤ (100000 : Nat)) ∧ ((goodL (tri (lnSV (lstV (tri l) (tri m))))) ∧ (((-1 : Int) ≤ (elCell (iSV x7) x11 (0 : Nat)).toInt) ∧ ((elCell (iSV x7) x11 (0 : Nat)).toInt ≤ (10000000000 : Int)))))) ∧ ((((!decide (atN (elCell (iSV x7) x11 (0 : Nat)).toInt (tri (lnSV (lstV (tri l) (tri m)))) (0 : Int) = minV (atN (elCell (iSV x7) x11 (0 : Nat)).toInt (tri l) (0 : Int)) (atN (elCell (iSV x7) x11 (0 : Nat)).toInt (tri m) (0 : Int)))) = true) → ((true = false) ∧ (True))) ∧ (((!decide (atN (elCell (iSV x7) x11 (0 : Nat)).toInt (tri (lnSV (lstV (tri l) (tri m)))) (0 : Int) = minV (atN (elCell (iSV x7) x11 (0 : Nat)).toInt (tri l) (0 : Int)) (atN (elCell (iSV x7) x11 (0 : Nat)).toInt (tri m) (0 : Int)))) = false) → (Ob ((((lnSV (grtV (tri l) (tri m))).length ≤ (100000 : Nat)) ∧ ((goodL (tri (lnSV (grtV (tri l) (tri m))))) ∧ (((-1 : Int) ≤ (elCell (iSV x7) x11 (0 : Nat)).toInt) ∧ ((elCell (iSV x7) x11 (0 : Nat)).toInt ≤ (10000000000 : Int)))))) ∧ ((((!decide (atN (elCell (iSV x7) x11 (0 : Nat)).toInt (tri (lnSV (grtV (tri l) (tri m)))) (0 : Int) = maxV (atN (elCell (iSV x7) x11 (0 : Nat)).toInt (tri l) (0 : Int)) (atN (elCell (iSV x7) x11 (0 : Nat)).toInt (tri m) (0 : Int)))) = true) → ((true = false) ∧ (True))) ∧ (((!decide (atN (elCell (iSV x7) x11 (0 : Nat)).toInt (tri (lnSV (grtV (tri l) (tri m)))) (0 : Int) = maxV (atN (elCell (iSV x7) x11 (0 : Nat)).toInt (tri l) (0 : Int)) (atN (elCell (iSV x7) x11 (0 : Nat)).toInt (tri m) (0 : Int)))) = false) → (∃ (x13 : Nat), ((l = l) ∧ ((m = m) ∧ ((lnSV (lstV (tri l) (tri m)) = lnSV (lstV (tri l) (tri m))) ∧ ((lnSV (grtV (tri l) (tri m)) = lnSV (grtV (tri l) (tri m))) ∧ ((iSV x7 = iSV x7) ∧ (((↑x7.length : Int) = (↑x7.length : Int)) ∧ ((IntKind.i64.wrap ((↑x11 : Int) + (1 : Int)) = (↑x13 : Int)) ∧ (((x13 ≤ x7.length) ∧ ((x7.length ≤ (10000 : Nat)) ∧ ((∀ (x14 : Int), ((x14 ∈ x7) → (((0 : Int) ≤ x14) ∧ (x14 ≤ (10000000000 : Int))))) ∧ ((chkT (tri l) = (0 : Int)) ∧ ((chkT (tri m) = (0 : Int)) ∧ ((lstE (tri l) (tri m) = (0 : Int)) ∧ (grtE (tri l) (tri m) = (0 : Int)))))))) ∧ ((x7.length - x13 < x7.length - x11) ∧ (True))))))))))))))))))))) ∧ ((decide ((↑x11 : Int) < (↑x7.length : Int)) = false) → (((decide (chkT (tri (lnSV (lstV (tri l) (tri m)))) = (0 : Int)) = true) → ((decide (chkT (tri (lnSV (grtV (tri l) (tri m)))) = (0 : Int)) = true) ∧ (True))) ∧ ((decide (chkT (tri (lnSV (lstV (tri l) (tri m)))) = (0 : Int)) = false) → ((true = false) ∧ (True))))))))))))) := by kernel_rfl
def sh_lqs : List SV → Option ((List SV) × Int × Int)
  | [l', .int .i64 b, .int .i64 x] => (match slOf [.int .i64, .int .i64, .int .i64] l' with | some l => some (l, b, x) | _ => none)
  | _ => none
def em_lqs : (List SV) × Int × Int → List SV := fun (l, b, x) => [.sl [.int .i64, .int .i64, .int .i64] l, .int .i64 b, .int .i64 x]
theorem sh_lqs_le : ∀ us a, sh_lqs us = some a → leL us (em_lqs a) := by
  intro us a h
  unfold sh_lqs at h
  split at h
  · split at h
    · cases h; exact (.cons (.sl (by assumption)) (.cons (.refl _) (.cons (.refl _) .nil)))
    · cases h
  · cases h
def lqsC : Con := conOf sh_lqs (fun (l, b, x) => some (Ob (wfL [.int .i64, .int .i64, .int .i64] l ∧ in64 b ∧ in64 x))) (fun (l, b, x) => .bool true)
set_option maxRecDepth 100000 in
theorem vc_lqs (l : List SV) (b : Int) (x : Int) : (wpF ⟨171, tyT, [(9, qgoesC), (22, qshiftC), (10, qwrongC), (23, qsteepC), (15, qnearC), (13, qatC), (24, qsameC)], false, 0, [], false⟩ ((lqs_an l b x)) [] Try.f8 (em_lqs (l, b, x)) (.bool true)) = ((((((!true) = true) → ((true = false) ∧ (True))) ∧ (((!true) = false) → (((decide ((60 : Int) < (↑l.length : Int)) = true) → ((true = true) ∧ (True))) ∧ ((decide ((60 : Int) < (↑l.length : Int)) = false) → ((((!decide (chkT (tri l) = (0 : Int))) = true) → (((decide (shfE (tri l) b = chkT (tri l)) = true) → ((decide ((↑(lnSV (shfV (tri l) b)).length : Int) = (0 : Int)) = true) ∧ (True))) ∧ ((decide (shfE (tri l) b = chkT (tri l)) = false) → ((true = false) ∧ (True))))) ∧ (((!decide (chkT (tri l) = (0 : Int))) = false) → (Ob ((chkT (tri l) = (0 : Int))) ∧ ((∃ (x1 : Nat), ((l = l) ∧ ((b = b) ∧ ((x = x) ∧ ((lnSV (shfV (tri l) b) = lnSV (shfV (tri l) b)) ∧ ((shfE (tri l) b = shfE (tri l) b) ∧ (((stN (tri l) l.length).fst = (stN (tri l) l.length).fst) ∧ (((stN (tri l) l.length).snd.fst = (stN (tri l) l.length).snd.fst) ∧ ((someN (tri l) (stN (tri l) l.length).fst x1 = false) ∧ ((l = l) ∧ (((↑l.length : Int) = (↑l.length : Int)) ∧ (((0 : Int) = (↑x1 : Int)) ∧ (((x1 ≤ l.length) ∧ ((l.length ≤ (60 : Nat)) ∧ (chkT (tri l) = (0 : Int)))) ∧ ((True) ∧ (True))))))))))))))) ∧ (∀ (x2 : Nat), (((x2 ≤ l.length) ∧ ((l.length ≤ (60 : Nat)) ∧ (chkT (tri l) = (0 : Int)))) → (((decide ((↑x2 : Int) < (↑l.length : Int)) = true) → (Ob ((((0 : Int) ≤ (↑x2 : Int)) ∧ ((↑x2 : Int) < (↑l.length : Int)))) ∧ (((decide (IntKind.i64.wrap ((↑x2 : Int) + (1 : Int)) < (↑l.length : Int)) = true) → (Ob ((((0 : Int) ≤ IntKind.i64.wrap ((↑x2 : Int) + (1 : Int))) ∧ (IntKind.i64.wrap ((↑x2 : Int) + (1 : Int)) < (↑l.length : Int)))) ∧ (((decide (IntKind.i64.wrap ((elCell l (IntKind.i64.wrap ((↑x2 : Int) + (1 : Int))).toNat (0 : Nat)).toInt - (1 : Int)) = (elCell l x2 (0 : Nat)).toInt) = true) → (∃ (x3 : Nat), ((l = l) ∧ ((b = b) ∧ ((x = x) ∧ ((lnSV (shfV (tri l) b) = lnSV (shfV (tri l) b)) ∧ ((shfE (tri l) b = shfE (tri l) b) ∧ (((stN (tri l) l.length).fst = (stN (tri l) l.length).fst) ∧ (((stN (tri l) l.length).snd.fst = (stN (tri l) l.length).snd.fst) ∧ ((someN (tri l) (stN (tri l) l.length).fst x2 = someN (tri l) (stN (tri l) l.length).fst x3) ∧ ((l = l) ∧ (((↑l.length : Int) = (↑l.length : Int)) ∧ ((IntKind.i64.wrap ((↑x2 : Int) + (1 : Int)) = (↑x3 : Int)) ∧ (((x3 ≤ l.length) ∧ ((l.length ≤ (60 : Nat)) ∧ (chkT (tri l) = (0 : Int)))) ∧ ((l.length - x3 < l.length - x2) ∧ (True)))))))))))))))) ∧ ((decide (IntKind.i64.wrap ((elCell l (IntKind.i64.wrap ((↑x2 : Int) + (1 : Int))).toNat (0 : Nat)).toInt - (1 : Int)) = (elCell l x2 (0 : Nat)).toInt) = false) → (((decide ((stN (tri l) l.length).fst < (elCell l x2 (2 : Nat)).toInt) = true) → ((true = false) ∧ (True))) ∧ ((decide ((stN (tri l) l.length).fst < (elCell l x2 (2 : Nat)).toInt) = false) → (((decide ((elCell l x2 (2 : Nat)).toInt < (stN (tri l) l.length).snd.fst) = true) → ((true = false) ∧ (True))) ∧ ((decide ((elCell l x2 (2 : Nat)).toInt < (stN (tri l) l.length).snd.fst) = false) → (((someN (tri l) (stN (tri l) l.length).fst x2 = true) → (∃ (x4 : Nat), ((l = l) ∧ ((b = b) ∧ ((x = x) ∧ ((lnSV (shfV (tri l) b) = lnSV (shfV (tri l) b)) ∧ ((shfE (tri l) b = shfE (tri l) b) ∧ (((stN (tri l) l.length).fst = (stN (tri l) l.length).fst) ∧ (((stN (tri l) l.length).snd.fst = (stN (tri l) l.length).snd.fst) ∧ ((someN (tri l) (stN (tri l) l.length).fst x4 = true) ∧ ((l = l) ∧ (((↑l.length : Int) = (↑l.length : Int)) ∧ ((IntKind.i64.wrap ((↑x2 : Int) + (1 : Int)) = (↑x4 : Int)) ∧ (((x4 ≤ l.length) ∧ ((l.length ≤ (60 : Nat)) ∧ (chkT (tri l) = (0 : Int)))) ∧ ((l.length - x4 < l.length - x2) ∧ (True)))))))))))))))) ∧ ((someN (tri l) (stN (tri l) l.length).fst x2 = false) → (∃ (x5 : Nat), ((l = l) ∧ ((b = b) ∧ ((x = x) ∧ ((lnSV (shfV (tri l) b) = lnSV (shfV (tri l) b)) ∧ ((shfE (tri l) b = shfE (tri l) b) ∧ (((stN (tri l) l.length).fst = (stN (tri l) l.length).fst) ∧ (((stN (tri l) l.length).snd.fst = (stN (tri l) l.length).snd.fst) ∧ ((decide ((elCell l x2 (2 : Nat)).toInt = (stN (tri l) l.length).fst) = someN (tri l) (stN (tri l) l.length).fst x5) ∧ ((l = l) ∧ (((↑l.length : Int) = (↑l.length : Int)) ∧ ((IntKind.i64.wrap ((↑x2 : Int) + (1 : Int)) = (↑x5 : Int)) ∧ (((x5 ≤ l.length) ∧ ((l.length ≤ (60 : Nat)) ∧ (chkT (tri l) = (0 : Int)))) ∧ ((l.length - x5 < l.length - x2) ∧ (True))))))))))))))))))))))))) ∧ ((decide (IntKind.i64.wrap ((↑x2 : Int) + (1 : Int)) < (↑l.length : Int)) = false) → (((decide ((10000000000 : Int) = (elCell l x2 (0 : Nat)).toInt) = true) → (∃ (x6 : Nat), ((l = l) ∧ ((b = b) ∧ ((x = x) ∧ ((lnSV (shfV (tri l) b) = lnSV (shfV (tri l) b)) ∧ ((shfE (tri l) b = shfE (tri l) b) ∧ (((stN (tri l) l.length).fst = (stN (tri l) l.length).fst) ∧ (((stN (tri l) l.length).snd.fst = (stN (tri l) l.length).snd.fst) ∧ ((someN (tri l) (stN (tri l) l.length).fst x2 = someN (tri l) (stN (tri l) l.length).fst x6) ∧ ((l = l) ∧ (((↑l.length : Int) = (↑l.length : Int)) ∧ ((IntKind.i64.wrap ((↑x2 : Int) + (1 : Int)) = (↑x6 : Int)) ∧ (((x6 ≤ l.length) ∧ ((l.length ≤ (60 : Nat)) ∧ (chkT (tri l) = (0 : Int)))) ∧ ((l.length - x6 < l.length - x2) ∧ (True)))))))))))))))) ∧ ((decide ((10000000000 : Int) = (elCell l x2 (0 : Nat)).toInt) = false) → (((decide ((stN (tri l) l.length).fst < (elCell l x2 (2 : Nat)).toInt) = true) → ((true = false) ∧ (True))) ∧ ((decide ((stN (tri l) l.length).fst < (elCell l x2 (2 : Nat)).toInt) = false) → (((decide ((elCell l x2 (2 : Nat)).toInt < (stN (tri l) l.length).snd.fst) = true) → ((true = false) ∧ (True))) ∧ ((decide ((elCell l x2 (2 : Nat)).toInt < (stN (tri l) l.length).snd.fst) = false) → (((someN (tri l) (stN (tri l) l.length).fst x2 = true) → (∃ (x7 : Nat), ((l = l) ∧ ((b = b) ∧ ((x = x) ∧ ((lnSV (shfV (tri l) b) = lnSV (shfV (tri l) b)) ∧ ((shfE (tri l) b = shfE (tri l) b) ∧ (((stN (tri l) l.length).fst = (stN (tri l) l.length).fst) ∧ (((stN (tri l) l.length).snd.fst = (stN (tri l) l.length).snd.fst) ∧ ((someN (tri l) (stN (tri l) l.length).fst x7 = true) ∧ ((l = l) ∧ (((↑l.length : Int) = (↑l.length : Int)) ∧ ((IntKind.i64.wrap ((↑x2 : Int) + (1 : Int)) = (↑x7 : Int)) ∧ (((x7 ≤ l.length) ∧ ((l.length ≤ (60 : Nat)) ∧ (chkT (tri l) = (0 : Int)))) ∧ ((l.length - x7 < l.length - x2) ∧ (True)))))))))))))))) ∧ ((someN (tri l) (stN (tri l) l.length).fst x2 = false) → (∃ (x8 : Nat), ((l = l) ∧ ((b = b) ∧ ((x = x) ∧ ((lnSV (shfV (tri l) b) = lnSV (shfV (tri l) b)) ∧ ((shfE (tri l) b = shfE (tri l) b) ∧ (((stN (tri l) l.length).fst = (stN (tri l) l.length).fst) ∧ (((stN (tri l) l.length).snd.fst = (stN (tri l) l.length).snd.fst) ∧ ((decide ((elCell l x2 (2 : Nat)).toInt = (stN (tri l) l.length).fst) = someN (tri l) (stN (tri l) l.length).fst x8) ∧ ((l = l) ∧ (((↑l.length : Int) = (↑l.length : Int)) ∧ ((IntKind.i64.wrap ((↑x2 : Int) + (1 : Int)) = (↑x8 : Int)) ∧ (((x8 ≤ l.length) ∧ ((l.length ≤ (60 : Nat)) ∧ (chkT (tri l) = (0 : Int)))) ∧ ((l.length - x8 < l.length - x2) ∧ (True))))))))))))))))))))))))))) ∧ ((decide ((↑x2 : Int) < (↑l.length : Int)) = false) → ((((!someN (tri l) (stN (tri l) l.length).fst x2) = true) → ((((!decide ((stN (tri l) l.length).fst = (0 : Int))) = true) → ((true = false) ∧ (True))) ∧ (((!decide ((stN (tri l) l.length).fst = (0 : Int))) = false) → ((((!decide ((stN (tri l) l.length).snd.fst = (0 : Int))) = true) → ((true = false) ∧ (True))) ∧ (((!decide ((stN (tri l) l.length).snd.fst = (0 : Int))) = false) → (∃ (x9 : Unit), ((l = l) ∧ ((b = b) ∧ ((x = x) ∧ ((lnSV (shfV (tri l) b) = lnSV (shfV (tri l) b)) ∧ ((shfE (tri l) b = shfE (tri l) b) ∧ (((l.length ≤ (60 : Nat)) ∧ (chkT (tri l) = (0 : Int))) ∧ ((True) ∧ (True)))))))))))))) ∧ (((!someN (tri l) (stN (tri l) l.length).fst x2) = false) → (∃ (x10 : Unit), ((l = l) ∧ ((b = b) ∧ ((x = x) ∧ ((lnSV (shfV (tri l) b) = lnSV (shfV (tri l) b)) ∧ ((shfE (tri l) b = shfE (tri l) b) ∧ (((l.length ≤ (60 : Nat)) ∧ (chkT (tri l) = (0 : Int))) ∧ ((True) ∧ (True))))))))))))))))))))))) ∧ (∀ (x11 : Unit), (((l.length ≤ (60 : Nat)) ∧ (chkT (tri l) = (0 : Int))) → ((((decide (b < (0 : Int)) = true) → (((decide (shfE (tri l) b = (1 : Int)) = true) → ((decide ((↑(lnSV (shfV (tri l) b)).length : Int) = (0 : Int)) = true) ∧ (True))) ∧ ((decide (shfE (tri l) b = (1 : Int)) = false) → ((true = false) ∧ (True))))) ∧ ((decide (b < (0 : Int)) = false) → (((decide ((10000000000 : Int) < b) = true) → (((decide (shfE (tri l) b = (1 : Int)) = true) → ((decide ((↑(lnSV (shfV (tri l) b)).length : Int) = (0 : Int)) = true) ∧ (True))) ∧ ((decide (shfE (tri l) b = (1 : Int)) = false) → ((true = false) ∧ (True))))) ∧ ((decide ((10000000000 : Int) < b) = false) → ((((!decide (shfE (tri l) b = (0 : Int))) = true) → (((decide (shfE (tri l) b = (10 : Int)) = true) → ((decide ((↑(lnSV (shfV (tri l) b)).length : Int) = (0 : Int)) = true) ∧ (True))) ∧ ((decide (shfE (tri l) b = (10 : Int)) = false) → ((true = false) ∧ (True))))) ∧ (((!decide (shfE (tri l) b = (0 : Int))) = false) → (Ob ((((lnSV (shfV (tri l) b) ++ []).length ≤ (10000 : Nat)) ∧ (goodL (tri (lnSV (shfV (tri l) b)) ++ tri [])))) ∧ (((decide ((0 : Int) ≤ x) = true) → (((decide (x ≤ (10000000000 : Int)) = true) → (Ob (((((iSV (nearT (tri (lnSV (shfV (tri l) b))) (tri []))).length + (1 : Nat)) * (8 : Nat) ≤ (1099511627776 : Nat)) ∧ ((iSV (nearT (tri (lnSV (shfV (tri l) b))) (tri []))).length + (1 : Nat) ≤ (1099511627776 : Nat)))) ∧ (∃ (x12 : List Int), ((l = l) ∧ ((b = b) ∧ ((lnSV (shfV (tri l) b) = lnSV (shfV (tri l) b)) ∧ ((iSV (nearT (tri (lnSV (shfV (tri l) b))) (tri [])) ++ [SV.int IntKind.i64 x] = iSV x12) ∧ (((x12.length ≤ (10000 : Nat)) ∧ ((∀ (x13 : Int), ((x13 ∈ x12) → (((0 : Int) ≤ x13) ∧ (x13 ≤ (10000000000 : Int))))) ∧ ((l.length ≤ (60 : Nat)) ∧ ((chkT (tri l) = (0 : Int)) ∧ ((shfE (tri l) b = (0 : Int)) ∧ (((0 : Int) ≤ b) ∧ (b ≤ (10000000000 : Int)))))))) ∧ ((True) ∧ (True)))))))))) ∧ ((decide (x ≤ (10000000000 : Int)) = false) → (∃ (x14 : List Int), ((l = l) ∧ ((b = b) ∧ ((lnSV (shfV (tri l) b) = lnSV (shfV (tri l) b)) ∧ ((iSV (nearT (tri (lnSV (shfV (tri l) b))) (tri [])) = iSV x14) ∧ (((x14.length ≤ (10000 : Nat)) ∧ ((∀ (x15 : Int), ((x15 ∈ x14) → (((0 : Int) ≤ x15) ∧ (x15 ≤ (10000000000 : Int))))) ∧ ((l.length ≤ (60 : Nat)) ∧ ((chkT (tri l) = (0 : Int)) ∧ ((shfE (tri l) b = (0 : Int)) ∧ (((0 : Int) ≤ b) ∧ (b ≤ (10000000000 : Int)))))))) ∧ ((True) ∧ (True))))))))))) ∧ ((decide ((0 : Int) ≤ x) = false) → (∃ (x16 : List Int), ((l = l) ∧ ((b = b) ∧ ((lnSV (shfV (tri l) b) = lnSV (shfV (tri l) b)) ∧ ((iSV (nearT (tri (lnSV (shfV (tri l) b))) (tri [])) = iSV x16) ∧ (((x16.length ≤ (10000 : Nat)) ∧ ((∀ (x17 : Int), ((x17 ∈ x16) → (((0 : Int) ≤ x17) ∧ (x17 ≤ (10000000000 : Int))))) ∧ ((l.length ≤ (60 : Nat)) ∧ ((chkT (tri l) = (0 : Int)) ∧ ((shfE (tri l) b = (0 : Int)) ∧ (((0 : Int) ≤ b) ∧ (b ≤ (10000000000 : Int)))))))) ∧ ((True) ∧ (True))))))))))))))))) ∧ (∀ (x18 : List Int), (((x18.length ≤ (10000 : Nat)) ∧ ((∀ (x19 : Int), ((x19 ∈ x18) → (((0 : Int) ≤ x19) ∧ (x19 ≤ (10000000000 : Int))))) ∧ ((l.length ≤ (60 : Nat)) ∧ ((chkT (tri l) = (0 : Int)) ∧ ((shfE (tri l) b = (0 : Int)) ∧ (((0 : Int) ≤ b) ∧ (b ≤ (10000000000 : Int)))))))) → ((∃ (x20 : Nat), ((l = l) ∧ ((b = b) ∧ ((lnSV (shfV (tri l) b) = lnSV (shfV (tri l) b)) ∧ ((iSV x18 = iSV x18) ∧ (((↑(iSV x18).length : Int) = (↑x18.length : Int)) ∧ (((0 : Int) = (↑x20 : Int)) ∧ (((x20 ≤ x18.length) ∧ ((x18.length ≤ (10000 : Nat)) ∧ ((∀ (x21 : Int), ((x21 ∈ x18) → (((0 : Int) ≤ x21) ∧ (x21 ≤ (10000000000 : Int))))) ∧ ((l.length ≤ (60 : Nat)) ∧ ((chkT (tri l) = (0 : Int)) ∧ ((shfE (tri l) b = (0 : Int)) ∧ (((0 : Int) ≤ b) ∧ (b ≤ (10000000000 : Int))))))))) ∧ ((True) ∧ (True)))))))))) ∧ (∀ (x22 : Nat), (((x22 ≤ x18.length) ∧ ((x18.length ≤ (10000 : Nat)) ∧ ((∀ (x23 : Int), ((x23 ∈ x18) → (((0 : Int) ≤ x23) ∧ (x23 ≤ (10000000000 : Int))))) ∧ ((l.length ≤ (60 : Nat)) ∧ ((chkT (tri l) = (0 : Int)) ∧ ((shfE (tri l) b = (0 : Int)) ∧ (((0 : Int) ≤ b) ∧ (b ≤ (10000000000 : Int))))))))) → (((decide ((↑x22 : Int) < (↑x18.length : Int)) = true) → (Ob ((((0 : Int) ≤ (↑x22 : Int)) ∧ ((↑x22 : Int) < (↑(iSV x18).length : Int)))) ∧ (((decide ((10000000000 : Int) < IntKind.i64.wrap ((elCell (iSV x18) x22 (0 : Nat)).toInt + b)) = true) → (∃ (x24 : Nat), ((l = l) ∧ ((b = b) ∧ ((lnSV (shfV (tri l) b) = lnSV (shfV (tri l) b)) ∧ ((iSV x18 = iSV x18) ∧ (((↑x18.length : Int) = (↑x18.length : Int)) ∧ ((IntKind.i64.wrap ((↑x22 : Int) + (1 : Int)) = (↑x24 : Int)) ∧ (((x24 ≤ x18.length) ∧ ((x18.length ≤ (10000 : Nat)) ∧ ((∀ (x25 : Int), ((x25 ∈ x18) → (((0 : Int) ≤ x25) ∧ (x25 ≤ (10000000000 : Int))))) ∧ ((l.length ≤ (60 : Nat)) ∧ ((chkT (tri l) = (0 : Int)) ∧ ((shfE (tri l) b = (0 : Int)) ∧ (((0 : Int) ≤ b) ∧ (b ≤ (10000000000 : Int))))))))) ∧ ((x18.length - x24 < x18.length - x22) ∧ (True))))))))))) ∧ ((decide ((10000000000 : Int) < IntKind.i64.wrap ((elCell (iSV x18) x22 (0 : Nat)).toInt + b)) = false) → (Ob ((((lnSV (shfV (tri l) b)).length ≤ (100000 : Nat)) ∧ ((goodL (tri (lnSV (shfV (tri l) b)))) ∧ (((-1 : Int) ≤ (elCell (iSV x18) x22 (0 : Nat)).toInt) ∧ ((elCell (iSV x18) x22 (0 : Nat)).toInt ≤ (10000000000 : Int)))))) ∧ (Ob (((l.length ≤ (100000 : Nat)) ∧ ((goodL (tri l)) ∧ (((-1 : Int) ≤ IntKind.i64.wrap ((elCell (iSV x18) x22 (0 : Nat)).toInt + b)) ∧ (IntKind.i64.wrap ((elCell (iSV x18) x22 (0 : Nat)).toInt + b) ≤ (10000000000 : Int)))))) ∧ ((((!decide (atN (elCell (iSV x18) x22 (0 : Nat)).toInt (tri (lnSV (shfV (tri l) b))) (0 : Int) = atN (IntKind.i64.wrap ((elCell (iSV x18) x22 (0 : Nat)).toInt + b)) (tri l) (0 : Int))) = true) → ((true = false) ∧ (True))) ∧ (((!decide (atN (elCell (iSV x18) x22 (0 : Nat)).toInt (tri (lnSV (shfV (tri l) b))) (0 : Int) = atN (IntKind.i64.wrap ((elCell (iSV x18) x22 (0 : Nat)).toInt + b)) (tri l) (0 : Int))) = false) → (∃ (x26 : Nat), ((l = l) ∧ ((b = b) ∧ ((lnSV (shfV (tri l) b) = lnSV (shfV (tri l) b)) ∧ ((iSV x18 = iSV x18) ∧ (((↑x18.length : Int) = (↑x18.length : Int)) ∧ ((IntKind.i64.wrap ((↑x22 : Int) + (1 : Int)) = (↑x26 : Int)) ∧ (((x26 ≤ x18.length) ∧ ((x18.length ≤ (10000 : Nat)) ∧ ((∀ (x27 : Int), ((x27 ∈ x18) → (((0 : Int) ≤ x27) ∧ (x27 ≤ (10000000000 : Int))))) ∧ ((l.length ≤ (60 : Nat)) ∧ ((chkT (tri l) = (0 : Int)) ∧ ((shfE (tri l) b = (0 : Int)) ∧ (((0 : Int) ≤ b) ∧ (b ≤ (10000000000 : Int))))))))) ∧ ((x18.length - x26 < x18.length - x22) ∧ (True)))))))))))))))))) ∧ ((decide ((↑x22 : Int) < (↑x18.length : Int)) = false) → (((decide (chkT (tri (lnSV (shfV (tri l) b))) = (0 : Int)) = true) → (((decide (shfE (tri l) (0 : Int) = (0 : Int)) = true) → ((smT (tri l) (tri (lnSV (shfV (tri l) (0 : Int)))) = true) ∧ (True))) ∧ ((decide (shfE (tri l) (0 : Int) = (0 : Int)) = false) → ((true = false) ∧ (True))))) ∧ ((decide (chkT (tri (lnSV (shfV (tri l) b))) = (0 : Int)) = false) → ((true = false) ∧ (True)))))))))))))))) := by kernel_rfl
theorem lst_err {L M : List Ln} : (chkT L ≠ 0 → lstE L M = chkT L ∧ lstV L M = [] ∧ grtE L M = chkT L ∧ grtV L M = []) ∧ (chkT L = 0 → chkT M ≠ 0 → lstE L M = chkT M ∧ lstV L M = [] ∧ grtE L M = chkT M ∧ grtV L M = []) := by
  refine ⟨fun h => ?_, fun h h2 => ?_⟩
  · have hb : bothE L M = chkT L := by unfold bothE; rw [if_neg h]
    have e : lstE L M = chkT L := by unfold lstE; rw [hb, if_neg h]
    have e2 : grtE L M = chkT L := by unfold grtE; rw [hb, if_neg h]
    exact ⟨e, by unfold lstV; rw [e, if_neg h], e2, by unfold grtV; rw [e2, if_neg h]⟩
  · have hb : bothE L M = chkT M := by unfold bothE; rw [if_pos h]
    have e : lstE L M = chkT M := by unfold lstE; rw [hb, if_neg h2]
    have e2 : grtE L M = chkT M := by unfold grtE; rw [hb, if_neg h2]
    exact ⟨e, by unfold lstV; rw [e, if_neg h2], e2, by unfold grtV; rw [e2, if_neg h2]⟩
theorem minV_min (a b : Int) : minV a b = min a b := by unfold minV; split <;> omega
theorem maxV_max (a b : Int) : maxV a b = max a b := by unfold maxV; split <;> omega
theorem near_all {F G : List Ln} : ∀ x, x ∈ nearT F G → 0 ≤ x ∧ x ≤ 10000000000 := fun x h => near_in h
theorem lql_known : Known Try.prog 5 lqlC := by
  refine known1 (nt := 150) (An := fun (l, m, x) => (lql_an l m)) (labs := []) (lit := false) (em := em_lql) sh_lql_le (by kernel_rfl) mixedT tyT_ok (.cons qgoes_known (.cons least_known (.cons greatest_known (.cons qwrong_known (.cons qnear_known (.cons qat_known .nil)))))) Try.func5 (by kernel_rfl) (fun a => by obtain ⟨l, m, x⟩ := a; kernel_rfl) (fun a => by obtain ⟨l, m, x⟩ := a; rfl) (fun a ha => ?_)
  obtain ⟨l, m, x⟩ := a
  replace ha : wfL [.int .i64, .int .i64, .int .i64] l ∧ wfL [.int .i64, .int .i64, .int .i64] m ∧ in64 x := ha.out
  refine ⟨_, vc_lql l m x, ?_⟩
  have hl := tri_len l
  have hm := tri_len m
  have hlm : (l ++ m).length = l.length + m.length := List.length_append
  have hnl := near_len (tri l) (tri m)
  obtain ⟨f1, f2⟩ := lst_err (L := tri l) (M := tri m)
  simp only [iA_cell, iSV_len, List.length_append]
  simp only [cell0, cell1, cell2, tri_lnSV, lnSV_len, tri_take, ← iSV_app, iSV_len]
  simp only [Int.reduceLE, Int.reduceLT, Int.reduceEq, Int.reduceNe, Nat.reduceLeDiff, Nat.reduceEqDiff, beq_eq_false_iff_ne, beq_iff_eq, decide_eq_decide, ne_eq, eq_self, true_and, and_true, and_self, and_false, false_and, Bool.not_true, Bool.not_false, Bool.false_eq_true, Bool.true_eq_false, false_implies, true_implies, implies_true, imp_false, not_true, not_false_eq_true, decide_eq_true_eq, decide_eq_false_iff_not, Bool.not_eq_true', Bool.not_eq_false', Bool.and_eq_true, Classical.not_not, decide_true, decide_false, Bool.and_true, Bool.true_and, if_true, if_false, Ob_iff]
  have vz : ∀ L : List Ln, L = [] → (L.length : Int) = 0 := fun L h => by rw [h]; rfl
  refine ⟨fun hl60 hm60 => ⟨fun h => ?_, fun h => ⟨fun h2 => ?_, fun h2 => ?_⟩⟩, fun X ⟨i1, i2, i3, i4, i5, i6⟩ => ?_⟩
  · obtain ⟨a1, a2, a3, a4⟩ := f1 h
    exact ⟨fun _ => ⟨fun _ => ⟨fun _ => vz _ a4, vz _ a2⟩, a3⟩, a1⟩
  · obtain ⟨a1, a2, a3, a4⟩ := f2 h h2
    exact ⟨fun _ => ⟨fun _ => ⟨fun _ => vz _ a4, vz _ a2⟩, a3⟩, a1⟩
  · have sl := chk_ok.1 h
    have sm := chk_ok.1 h2
    obtain ⟨a1, a2⟩ := least_all sl sm
    obtain ⟨b1, b2⟩ := greatest_all sl sm
    refine ⟨fun h5 h6 => absurd h6 (by omega), fun h5 => ⟨fun h6 h7 => by omega, fun h6 => ?_⟩⟩
    have ls := (a2 h5).1
    have gs := (b2 h6).1
    have n1 := ls.2.1
    have n2 := gs.2.1
    have hnm := near_len (lstV (tri l) (tri m)) (grtV (tri l) (tri m))
    have hin : ∀ x, x ∈ nearT (tri l) (tri m) ++ nearT (lstV (tri l) (tri m)) (grtV (tri l) (tri m)) → 0 ≤ x ∧ x ≤ 10000000000 := fun x hx => (List.mem_append.1 hx).elim near_in near_in
    have hlen : (nearT (tri l) (tri m) ++ nearT (lstV (tri l) (tri m)) (grtV (tri l) (tri m))).length ≤ 9000 := by rw [List.length_append]; omega
    have hlen' := hlen
    rw [List.length_append] at hlen'
    refine ⟨⟨by omega, good_app (std_good sl) (std_good sm)⟩, ⟨by omega, good_app (std_good ls) (std_good gs)⟩, by omega, fun h7 => ⟨fun h8 => ⟨by omega, ⟨nearT (tri l) (tri m) ++ nearT (lstV (tri l) (tri m)) (grtV (tri l) (tri m)) ++ [x], ?_, ?_, ?_, h, h2, h5, h6⟩⟩, fun h8 => ⟨nearT (tri l) (tri m) ++ nearT (lstV (tri l) (tri m)) (grtV (tri l) (tri m)), rfl, by omega, hin, h, h2, h5, h6⟩⟩, fun h7 => ⟨nearT (tri l) (tri m) ++ nearT (lstV (tri l) (tri m)) (grtV (tri l) (tri m)), rfl, by omega, hin, h, h2, h5, h6⟩⟩
    · rw [iSV_app (_ ++ _)]; rfl
    · rw [List.length_append, List.length_singleton]; omega
    · intro z hz
      rcases List.mem_append.1 hz with hz | hz
      · exact hin z hz
      · rw [List.mem_singleton] at hz; omega
  · have sl := chk_ok.1 i3
    have sm := chk_ok.1 i4
    obtain ⟨a1, a2⟩ := least_all sl sm
    obtain ⟨b1, b2⟩ := greatest_all sl sm
    obtain ⟨ls, lv⟩ := a2 i5
    obtain ⟨gs, gv⟩ := b2 i6
    have n1 := ls.2.1
    have n2 := gs.2.1
    have n3 := sl.2.1
    have n4 := sm.2.1
    refine ⟨⟨0, rfl, by omega, i1, i2, i3, i4, i5, i6⟩, fun i ⟨j1, _⟩ => ⟨fun h7 => ?_, fun _ => ⟨fun _ => chk_ok.2 gs, chk_ok.2 ls⟩⟩⟩
    have hx := i2 _ (iA_mem (X := X) (i := i) (by omega))
    have eL : ∀ F : List Ln, stdT F → atN (iA X i) F 0 = vAt F (iA X i) := fun F hF => frame_v (std_frame hF) hx.1 0
    rw [eL _ ls, eL _ sl, eL _ sm, eL _ gs, minV_min, maxV_max]
    exact ⟨by omega, ⟨by omega, std_good sl, by omega, by omega⟩, ⟨by omega, std_good sm, by omega, by omega⟩, ⟨by omega, std_good ls, by omega, by omega⟩, lv _ hx.1 hx.2, fun _ => ⟨⟨by omega, std_good gs, by omega, by omega⟩, gv _ hx.1 hx.2, fun _ => ⟨i + 1, by rw [wrapI (by omega)]; rfl, ⟨by omega, i1, i2, i3, i4, i5, i6⟩, by omega⟩⟩⟩

/-! ### Shifted -/
theorem shf_frame {L : List Ln} (h : stdT L) {b : Int} (h0 : 0 ≤ b) (h1 : b ≤ 10000000000) : frame (shfT L b) := by
  obtain ⟨f1, f2, f3⟩ := std_fnd h h0
  have hl := shfT_len L b
  have at_ : ∀ i, i < (shfT L b).length → (lnA (shfT L b) i).1 = maxV 0 ((lnA L (fndT L b + i)).1 - b) := fun i hi => by rw [shfT_at (by omega)]; rfl
  have far : ∀ i, 0 < i → i < (shfT L b).length → b < (lnA L (fndT L b + i)).1 := fun i hp hi => by
    have a := f3 (by omega)
    rcases Nat.lt_or_ge 1 i with h5 | h5
    · have := rises_lt (stdT_rises h) (i := fndT L b + 1) (j := fndT L b + i) (by omega) (by omega); omega
    · rw [show i = 1 by omega]; exact a
  have near : ∀ i, 0 < i → i < (shfT L b).length → (lnA (shfT L b) i).1 = (lnA L (fndT L b + i)).1 - b := fun i hp hi => by
    have := far i hp hi
    rw [at_ i hi]; unfold maxV; split <;> omega
  have zero : (lnA (shfT L b) 0).1 = 0 := by
    rw [at_ 0 (by omega), Nat.add_zero]; unfold maxV; split <;> omega
  refine ⟨by omega, zero, fun i hi => ?_, fun i hi => ?_⟩
  · rcases Nat.eq_zero_or_pos i with h5 | h5
    · subst h5
      have := far 1 (by omega) hi
      rw [zero, near 1 (by omega) hi]; omega
    · rw [near i h5 (by omega), near (i + 1) (by omega) hi]
      have := stdT_rises h (fndT L b + i) (by omega)
      rw [show fndT L b + (i + 1) = fndT L b + i + 1 by omega]; omega
  · have := (h.2.2 (fndT L b + i) (by omega)).1
    rw [at_ i hi]; unfold maxV; split <;> omega
theorem shf_at {L : List Ln} (h : stdT L) {b : Int} (h0 : 0 ≤ b) (h1 : b ≤ 10000000000) {x : Int} (hx : 0 ≤ x) : atN x (shfT L b) 0 = vAt L (x + b) := by
  obtain ⟨f1, f2, f3⟩ := std_fnd h h0
  obtain ⟨g1, g2, g3⟩ := std_fnd h (x := x + b) (by omega)
  have hl := shfT_len L b
  have hr := stdT_rises h
  have hk : fndT L b ≤ fndT L (x + b) := by
    rcases Nat.lt_or_ge (fndT L (x + b)) (fndT L b) with h5 | h5
    · have a := g3 (by omega)
      rcases Nat.lt_or_ge (fndT L (x + b) + 1) (fndT L b) with h6 | h6
      · have := rises_lt hr h6 f1; omega
      · rw [show fndT L (x + b) + 1 = fndT L b by omega] at a; omega
    · exact h5
  obtain ⟨i, hi⟩ : ∃ i, fndT L (x + b) = fndT L b + i := ⟨fndT L (x + b) - fndT L b, by omega⟩
  rw [hi] at g1 g2 g3
  have hf := shf_frame h h0 h1
  have e1 : lnA (shfT L b) i = shfP b (lnA L (fndT L b + i)) := shfT_at g1
  have e : atN x (shfT L b) 0 = atT (lnA (shfT L b) i) x := by
    refine atN_at hf.2.2.1 0 (by omega) ?_ (fun h5 => ?_)
    · rw [e1]; show maxV 0 _ ≤ x; unfold maxV; split <;> omega
    · rw [shfT_at (by omega)]
      have := g3 (by omega)
      show x < maxV 0 _
      rw [show fndT L b + (i + 1) = fndT L b + i + 1 by omega]
      unfold maxV; split <;> omega
  rw [e, e1]
  unfold vAt
  rw [hi]
  generalize lnA L (fndT L b + i) = a
  obtain ⟨f, v, r⟩ := a
  show v + (maxV 0 (f - b) + b - f) * r + (x - maxV 0 (f - b)) * r = v + (x + b - f) * r
  rw [Int.add_assoc, ← Int.add_mul]
  congr 2
  omega
theorem shf_err {L : List Ln} {b : Int} : (chkT L ≠ 0 → shfE L b = chkT L ∧ shfV L b = []) ∧ (chkT L = 0 → (b < 0 ∨ 10000000000 < b) → shfE L b = 1 ∧ shfV L b = []) ∧ (shfE L b ≠ 0 → shfV L b = []) := by
  have z : shfE L b ≠ 0 → shfV L b = [] := fun h => by unfold shfV; rw [if_neg h]
  refine ⟨fun h => ?_, fun h h2 => ?_, z⟩
  · have e : shfE L b = chkT L := by unfold shfE; rw [if_neg h]
    exact ⟨e, z (by rw [e]; exact h)⟩
  · have e : shfE L b = 1 := by unfold shfE; rw [if_pos h, if_pos h2]
    exact ⟨e, z (by rw [e]; decide)⟩
theorem shf_all {L : List Ln} (h : stdT L) {b : Int} (h0 : 0 ≤ b) (h1 : b ≤ 10000000000) : (shfE L b = 0 ∨ shfE L b = 10) ∧
    (shfE L b = 0 → stdT (shfV L b) ∧ ∀ x, 0 ≤ x → x ≤ 10000000000 → vAt (shfV L b) x = vAt L (x + b)) := by
  have ee : shfE L b = chkT (jnT (shfT L b)) := by unfold shfE; rw [if_pos (chk_ok.2 h), if_neg (by omega)]; rfl
  have hr : Rep (shfT L b) (fun x => vAt L (x + b)) := ⟨shf_frame h h0 h1, fun x hx _ => shf_at h h0 h1 hx⟩
  obtain ⟨r1, r2⟩ := jn_rep hr
  have hn : (jnT (shfT L b)).length ≤ (shfT L b).length := jnN_len _ _
  have hl := shfT_len L b
  have h256 := h.2.1
  refine ⟨?_, fun h5 => ?_⟩
  · rw [ee]
    rcases frame_err r1.1 with h' | ⟨h', _⟩ | ⟨_, ⟨i, hi, hne⟩, _⟩ | ⟨_, h'⟩
    · exact .inl h'
    · omega
    · exfalso
      obtain ⟨j, hj, e⟩ := mem_lnA (jn_mem (lnA_mem hi))
      rw [← e, shfT_at (by omega)] at hne
      exact hne (h.2.2 (fndT L b + j) (by omega)).2.2.2.1
    · exact .inr h'
  · have e : shfV L b = jnT (shfT L b) := by unfold shfV; rw [if_pos h5]
    rw [e]
    rw [ee] at h5
    exact ⟨chk_ok.1 h5, fun x h0 h1 => rep_v r1 h0 h1⟩
theorem shf_zero {L : List Ln} (h : stdT L) : shfE L 0 = 0 := by
  have e : shfT L 0 = L := by
    have f0 : fndT L 0 = 0 := by
      obtain ⟨f1, f2, f3⟩ := std_fnd h (Int.le_refl 0)
      rcases Nat.eq_zero_or_pos (fndT L 0) with h5 | h5
      · exact h5
      · have a := rises_lt (stdT_rises h) h5 f1
        have := (h.2.2 0 h.1).2.1 rfl
        omega
    unfold shfT
    rw [f0, List.drop_zero]
    conv => rhs; rw [← List.map_id L]
    refine List.map_congr_left (fun a ha => ?_)
    have := (std_mem h ha).1
    have em : maxV 0 (a.1 - 0) = a.1 := by unfold maxV; split <;> omega
    unfold shfP
    rw [em, Int.add_zero, at_from]
    rfl
  have ee : shfE L 0 = chkT (jnT (shfT L 0)) := by unfold shfE; rw [if_pos (chk_ok.2 h), if_neg (by omega)]; rfl
  rw [ee, e]
  have hn : (jnT L).length ≤ L.length := jnN_len _ _
  have := h.2.1
  exact chk_ok.2 (rep_std (jn_rep (std_rep h)).1 (by omega) (fun a ha => (std_mem h (jn_mem ha)).2.1) (fun x h0 h1 => vAt_in h h0 h1))
theorem same_all {L M : List Ln} (hL : stdT L) (hM : stdT M) (h : ∀ x, 0 ≤ x → x ≤ 10000000000 → vAt L x = vAt M x) : smT L M = true := by
  have hb : bothE L M = 0 := by unfold bothE; rw [if_pos (chk_ok.2 hL)]; exact chk_ok.2 hM
  have hs := froms_sorted L M
  have all : ∀ i, i < (fromsT L M).length → smB L M i = true := fun i hi => by
    have hin := froms_in hL hM (iA_mem hi)
    have hz := endZ_in hL hM hi
    have e1 := fnd_stay (std_frame hL) hs (fun a ha => froms_mem1 ha) hi hin.1 hz.1 (Int.le_refl _)
    have e2 := fnd_stay (std_frame hM) hs (fun a ha => froms_mem2 ha) hi hin.1 hz.1 (Int.le_refl _)
    unfold smB
    rw [← e1, ← e2]
    simp [h _ hin.1 hin.2, h (endZ (fromsT L M) i) (by omega) hz.2]
  unfold smT
  rw [fsN_eq (i := (fromsT L M).length) (Nat.le_refl _) (fun k hk => by simp [all k hk]) (fun h => absurd h (Nat.lt_irrefl _))]
  simp [hb]
theorem st_all (L : List Ln) : ∀ n, (∀ i, i < n → endT L i ≠ (lnA L i).1 → (lnA L i).2.2 ≤ (stN L n).1 ∧ (stN L n).2.1 ≤ (lnA L i).2.2 ∧ (stN L n).2.2 = true) ∧
    ((stN L n).2.2 = true → ∃ i, i < n ∧ endT L i ≠ (lnA L i).1 ∧ (lnA L i).2.2 = (stN L n).1) ∧ ((stN L n).2.2 = false → (stN L n).1 = 0 ∧ (stN L n).2.1 = 0)
  | 0 => ⟨fun i hi => absurd hi (Nat.not_lt_zero _), fun h => (by cases h), fun _ => ⟨rfl, rfl⟩⟩
  | n + 1 => by
    obtain ⟨a1, a2, a3⟩ := st_all L n
    by_cases hn : endT L n = (lnA L n).1
    · have e : stN L (n + 1) = stN L n := by rw [stN, if_pos hn]
      rw [e]
      refine ⟨fun i hi hne => ?_, fun h => ?_, a3⟩
      · rcases Nat.lt_or_ge i n with h5 | h5
        · exact a1 i h5 hne
        · rw [show i = n by omega] at hne; exact absurd hn hne
      · obtain ⟨i, h1, h2⟩ := a2 h; exact ⟨i, by omega, h2⟩
    · by_cases hs : (stN L n).2.2 = true
      · have e : stN L (n + 1) = (maxV (stN L n).1 (lnA L n).2.2, minV (stN L n).2.1 (lnA L n).2.2, true) := by rw [stN, if_neg hn, if_pos hs]
        rw [e]
        simp only [maxV_max, minV_min]
        refine ⟨fun i hi hne => ?_, fun _ => ?_, fun h => (by cases h)⟩
        · rcases Nat.lt_or_ge i n with h5 | h5
          · have := a1 i h5 hne
            exact ⟨by omega, by omega, by first | rfl | trivial⟩
          · rw [show i = n by omega]; exact ⟨by omega, by omega, by first | rfl | trivial⟩
        · obtain ⟨i, h1, h2, h3⟩ := a2 hs
          rcases Int.le_total (lnA L n).2.2 (stN L n).1 with h5 | h5
          · exact ⟨i, by omega, h2, by rw [h3]; omega⟩
          · exact ⟨n, by omega, hn, by omega⟩
      · have e : stN L (n + 1) = ((lnA L n).2.2, (lnA L n).2.2, true) := by rw [stN, if_neg hn, if_neg hs]
        rw [e]
        refine ⟨fun i hi hne => ?_, fun _ => ⟨n, by omega, hn, rfl⟩, fun h => (by cases h)⟩
        rcases Nat.lt_or_ge i n with h5 | h5
        · exact absurd (a1 i h5 hne).2.2 hs
        · rw [show i = n by omega]; exact ⟨Int.le_refl _, Int.le_refl _, rfl⟩
theorem some_of (L : List Ln) (v : Int) : ∀ n, (∃ i, i < n ∧ endT L i ≠ (lnA L i).1 ∧ (lnA L i).2.2 = v) → someN L v n = true
  | 0, ⟨i, hi, _⟩ => absurd hi (Nat.not_lt_zero _)
  | n + 1, ⟨i, hi, h2, h3⟩ => by
    rcases Nat.lt_or_ge i n with h5 | h5
    · have := some_of L v n ⟨i, h5, h2, h3⟩
      rw [someN]
      split
      · exact this
      · rw [this]; rfl
    · have e : i = n := by omega
      subst e
      rw [someN, if_neg h2, h3]
      simp
theorem lqs_known : Known Try.prog 8 lqsC := by
  refine known1 (nt := 171) (An := fun (l, b, x) => (lqs_an l b x)) (labs := []) (lit := false) (em := em_lqs) sh_lqs_le (by kernel_rfl) mixedT tyT_ok (.cons qgoes_known (.cons qshift_known (.cons qwrong_known (.cons qsteep_known (.cons qnear_known (.cons qat_known (.cons qsame_known .nil))))))) Try.func8 (by kernel_rfl) (fun a => by obtain ⟨l, b, x⟩ := a; kernel_rfl) (fun a => by obtain ⟨l, b, x⟩ := a; rfl) (fun a ha => ?_)
  obtain ⟨l, b, x⟩ := a
  replace ha : wfL [.int .i64, .int .i64, .int .i64] l ∧ in64 b ∧ in64 x := ha.out
  refine ⟨_, vc_lqs l b x, ?_⟩
  have hl := tri_len l
  obtain ⟨f1, f2, f3⟩ := shf_err (L := tri l) (b := b)
  have t0 : tri ([] : List SV) = [] := rfl
  simp only [iA_cell, iSV_len, List.append_nil, t0]
  simp only [cell0, cell1, cell2, tri_lnSV, lnSV_len, tri_take, List.append_nil]
  simp only [Int.reduceLE, Int.reduceLT, Int.reduceEq, Int.reduceNe, Nat.reduceLeDiff, Nat.reduceEqDiff, beq_eq_false_iff_ne, beq_iff_eq, decide_eq_decide, ne_eq, eq_self, true_and, and_true, and_self, and_false, false_and, Bool.not_true, Bool.not_false, Bool.false_eq_true, Bool.true_eq_false, false_implies, true_implies, implies_true, imp_false, not_true, not_false_eq_true, decide_eq_true_eq, decide_eq_false_iff_not, Bool.not_eq_true', Bool.not_eq_false', Bool.and_eq_true, Classical.not_not, decide_true, decide_false, Bool.and_true, Bool.true_and, if_true, if_false, Ob_iff]
  have vz : ∀ L : List Ln, L = [] → (L.length : Int) = 0 := fun L h => by rw [h]; rfl
  refine ⟨fun h60 => ⟨fun h => ⟨fun _ => vz _ (f1 h).2, (f1 h).1⟩, fun h => ⟨h, ⟨0, rfl, rfl, by omega, by omega, h⟩, fun i ⟨i1, _⟩ => ⟨fun h2 => ?_, fun h2 => ?_⟩⟩⟩, fun _ ⟨h60, h⟩ => ⟨⟨fun h1 => ?_, fun h1 => ⟨fun h2 => ?_, fun h2 => ⟨fun h3 => ?_, fun h3 => ?_⟩⟩⟩, fun X ⟨i1, i2, i3, i4, i5, i6, i7⟩ => ?_⟩⟩
  · have hs := chk_ok.1 h
    have hf := std_frame hs
    have h256 := hs.2.1
    have hw : IntKind.i64.wrap ((i : Int) + 1) = ((i + 1 : Nat) : Int) := by rw [wrapI (by omega)]; omega
    simp only [hw, Int.toNat_natCast]
    obtain ⟨a1, a2, a3⟩ := st_all (tri l) l.length
    have e1 : ((i + 1 : Nat) : Int) < (l.length : Int) → IntKind.i64.wrap ((lnA (tri l) (i + 1)).1 - 1) = endT (tri l) i := fun h3 => by
      have := (frame_from hf (i := i + 1) (by omega))
      rw [wrapI (by omega)]
      unfold endT
      rw [if_pos (by omega)]
    have e2 : ¬ ((i + 1 : Nat) : Int) < (l.length : Int) → 10000000000 = endT (tri l) i := fun h3 => by
      unfold endT
      rw [if_neg (by omega)]
    have se : ∀ v, someN (tri l) v (i + 1) = if endT (tri l) i = (lnA (tri l) i).1 then someN (tri l) v i else someN (tri l) v i || decide ((lnA (tri l) i).2.2 = v) := fun v => rfl
    have body : ∀ e, e = endT (tri l) i → (e = (lnA (tri l) i).1 → ∃ x3 : Nat, someN (tri l) (stN (tri l) l.length).1 i = someN (tri l) (stN (tri l) l.length).1 x3 ∧ ((i + 1 : Nat) : Int) = (x3 : Int) ∧ (x3 ≤ l.length ∧ l.length ≤ 60 ∧ chkT (tri l) = 0) ∧ l.length - x3 < l.length - i) ∧
        (¬ e = (lnA (tri l) i).1 → ¬(stN (tri l) l.length).1 < (lnA (tri l) i).2.2 ∧ (¬(stN (tri l) l.length).1 < (lnA (tri l) i).2.2 → ¬(lnA (tri l) i).2.2 < (stN (tri l) l.length).2.1 ∧ (¬(lnA (tri l) i).2.2 < (stN (tri l) l.length).2.1 →
          (someN (tri l) (stN (tri l) l.length).1 i = true → ∃ x4 : Nat, someN (tri l) (stN (tri l) l.length).1 x4 = true ∧ ((i + 1 : Nat) : Int) = (x4 : Int) ∧ (x4 ≤ l.length ∧ l.length ≤ 60 ∧ chkT (tri l) = 0) ∧ l.length - x4 < l.length - i) ∧
          (someN (tri l) (stN (tri l) l.length).1 i = false → ∃ x5 : Nat, decide ((lnA (tri l) i).2.2 = (stN (tri l) l.length).1) = someN (tri l) (stN (tri l) l.length).1 x5 ∧ ((i + 1 : Nat) : Int) = (x5 : Int) ∧ (x5 ≤ l.length ∧ l.length ≤ 60 ∧ chkT (tri l) = 0) ∧ l.length - x5 < l.length - i)))) := fun e he => by
      subst he
      refine ⟨fun h3 => ⟨i + 1, by rw [se, if_pos h3], rfl, ⟨by omega, by omega, h⟩, by omega⟩, fun h3 => ?_⟩
      obtain ⟨b1, b2, b3⟩ := a1 i (by omega) h3
      refine ⟨by omega, fun _ => ⟨by omega, fun _ => ⟨fun h5 => ⟨i + 1, by rw [se, if_neg h3, h5]; rfl, rfl, ⟨by omega, by omega, h⟩, by omega⟩, fun h5 => ⟨i + 1, by rw [se, if_neg h3, h5]; rfl, rfl, ⟨by omega, by omega, h⟩, by omega⟩⟩⟩⟩
    refine ⟨by omega, fun h3 => ⟨by omega, ?_⟩, fun h3 => ?_⟩
    · rw [e1 h3]; exact body _ rfl
    · exact body _ (e2 h3)
  · have hs := chk_ok.1 h
    have e : i = l.length := by omega
    subst e
    obtain ⟨a1, a2, a3⟩ := st_all (tri l) l.length
    refine ⟨fun h5 => ?_, fun _ => ⟨(), by omega, h⟩⟩
    have hz : (stN (tri l) l.length).2.2 = false := by
      cases hb : (stN (tri l) l.length).2.2 with
      | false => rfl
      | true => rw [some_of _ _ _ (a2 hb)] at h5; cases h5
    obtain ⟨z1, z2⟩ := a3 hz
    exact ⟨z1, fun _ => ⟨z2, fun _ => ⟨(), by omega, h⟩⟩⟩
  · exact ⟨fun _ => vz _ (f2 h (.inl h1)).2, (f2 h (.inl h1)).1⟩
  · exact ⟨fun _ => vz _ (f2 h (.inr h2)).2, (f2 h (.inr h2)).1⟩
  · obtain ⟨a1, a2⟩ := shf_all (chk_ok.1 h) (b := b) (by omega) (by omega)
    exact ⟨fun _ => vz _ (f3 h3), by omega⟩
  · obtain ⟨a1, a2⟩ := shf_all (chk_ok.1 h) (b := b) (by omega) (by omega)
    obtain ⟨s1, s2⟩ := a2 h3
    have n1 := s1.2.1
    have hnl := near_len (shfV (tri l) b) []
    have t1 : ([] : List Ln).length = 0 := rfl
    refine ⟨⟨by omega, std_good s1⟩, fun h4 => ⟨fun h5 => ⟨by omega, ⟨nearT (shfV (tri l) b) [] ++ [x], ?_, ?_, ?_, h60, h, h3, by omega, by omega⟩⟩, fun h5 => ⟨nearT (shfV (tri l) b) [], rfl, by omega, near_all, h60, h, h3, by omega, by omega⟩⟩, fun h4 => ⟨nearT (shfV (tri l) b) [], rfl, by omega, near_all, h60, h, h3, by omega, by omega⟩⟩
    · rw [iSV_app]; rfl
    · rw [List.length_append, List.length_singleton]; omega
    · intro z hz
      rcases List.mem_append.1 hz with hz | hz
      · exact near_in hz
      · rw [List.mem_singleton] at hz; omega
  · have hs := chk_ok.1 i4
    obtain ⟨a1, a2⟩ := shf_all hs (b := b) (by omega) (by omega)
    obtain ⟨s1, s2⟩ := a2 i5
    have n1 := s1.2.1
    have n2 := hs.2.1
    refine ⟨⟨0, rfl, by omega, i1, i2, i3, i4, i5, i6, i7⟩, fun i ⟨j1, _⟩ => ⟨fun h4 => ?_, fun h4 => ⟨fun _ => ⟨fun _ => ?_, shf_zero hs⟩, chk_ok.2 s1⟩⟩⟩
    · have hx := i2 _ (iA_mem (X := X) (i := i) (by omega))
      have nx : ∃ x24 : Nat, IntKind.i64.wrap ((i : Int) + 1) = (x24 : Int) ∧ (x24 ≤ X.length ∧ X.length ≤ 10000 ∧ (∀ x, x ∈ X → 0 ≤ x ∧ x ≤ 10000000000) ∧ l.length ≤ 60 ∧ chkT (tri l) = 0 ∧ shfE (tri l) b = 0 ∧ 0 ≤ b ∧ b ≤ 10000000000) ∧ X.length - x24 < X.length - i :=
        ⟨i + 1, by rw [wrapI (by omega)]; rfl, ⟨by omega, i1, i2, i3, i4, i5, i6, i7⟩, by omega⟩
      rw [wrapI (n := iA X i + b) (by omega)]
      refine ⟨by omega, fun _ => nx, fun h5 => ⟨⟨by omega, std_good s1, by omega, by omega⟩, ⟨by omega, std_good hs, by omega, by omega⟩, ?_, fun _ => nx⟩⟩
      rw [frame_v (std_frame s1) hx.1, frame_v (std_frame hs) (by omega), s2 _ hx.1 hx.2]
    · obtain ⟨c1, c2⟩ := shf_all hs (b := 0) (by omega) (by omega)
      obtain ⟨d1, d2⟩ := c2 (shf_zero hs)
      exact same_all hs d1 (fun x h0 h1 => by rw [d2 x h0 h1, Int.add_zero])

end Go.Rx
