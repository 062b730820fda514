/- Functions of straight pieces: the statements. -/
import Derived.Test.YtibdbmalmmokmaaPc4
namespace Go.Rx
open Go.Proofs
set_option linter.unusedSimpArgs false
set_option linter.unusedVariables false

def orN (p : Nat → Bool) : Nat → Bool
  | 0 => false
  | n + 1 => orN p n || p n
abbrev zK : List CK := [.int .i64]
def lqa_an (l m : List SV) (t : Int) : Nat → Option Ann
  | 0 => some ⟨Nat, fun i => ⟨[(0, .sl lineK l), (1, .sl lineK m), (2, .int .i64 t), (7, .sl lineK (lnSV (addV (tri l) (tri m) t))), (83, .sl zK (iSV (nearT (tri l) (tri m)))), (84, .int .i64 (nearT (tri l) (tri m)).length), (85, .int .i64 i)], []⟩, fun i => i ≤ (nearT (tri l) (tri m)).length ∧ l.length ≤ 60 ∧ m.length ≤ 60 ∧ chkT (tri l) = 0 ∧ chkT (tri m) = 0 ∧ addE (tri l) (tri m) t = 0 ∧ -1 ≤ t ∧ t ≤ 1, fun i => (nearT (tri l) (tri m)).length - i, [0, 1, 2, 7, 83, 84, 85], [], [(99999, 83, 0, [])], fun _ _ => none⟩
  | 2 => some ⟨Nat, fun i => ⟨[(7, .sl lineK (lnSV (addV (tri l) (tri m) t))), (13, .int .i64 i)], []⟩, fun i => 1 ≤ i ∧ i ≤ (addV (tri l) (tri m) t).length ∧ chkT (tri l) = 0 ∧ chkT (tri m) = 0 ∧ addE (tri l) (tri m) t = 0, fun i => (addV (tri l) (tri m) t).length - i, [7, 13], [], [], fun _ _ => none⟩
  | _ => none
def lqr_an (l : List SV) (y : Int) : Nat → Option Ann
  | 0 => some ⟨Nat, fun i => ⟨[(0, .sl lineK l), (1, .int .i64 y), (5, .int .i64 (rchX (tri l) y)), (6, .int .i64 (rchC (tri l) y)), (7, .bool (rchO (tri l) y)), (8, .bool (orN (flsB (tri l)) i)), (37, .sl lineK l), (38, .int .i64 l.length), (39, .int .i64 i)], []⟩, fun i => i ≤ l.length ∧ l.length ≤ 60 ∧ chkT (tri l) = 0, fun i => l.length - i, [0, 1, 5, 6, 7, 8, 37, 38, 39], [], [], fun _ _ => none⟩
  | _ => none

def sh_lqc : List SV → Option ((List SV) × Int)
  | [l', .int .i64 x] => (match slOf [.int .i64, .int .i64, .int .i64] l' with | some l => some (l, x) | _ => none)
  | _ => none
def em_lqc : (List SV) × Int → List SV := fun (l, x) => [.sl [.int .i64, .int .i64, .int .i64] l, .int .i64 x]
theorem sh_lqc_le : ∀ us a, sh_lqc us = some a → leL us (em_lqc a) := by
  intro us a h
  unfold sh_lqc at h
  split at h
  · split at h
    · cases h; exact (.cons (.sl (by assumption)) (.cons (.refl _) .nil))
    · cases h
  · cases h
def lqcC : Con := conOf sh_lqc (fun (l, x) => some (Ob (wfL [.int .i64, .int .i64, .int .i64] l ∧ in64 x))) (fun (l, x) => .bool true)
set_option maxRecDepth 100000 in
theorem vc_lqc (l : List SV) (x : Int) : (wpF ⟨55, tyT, [(9, qgoesC), (10, qwrongC), (11, patC), (12, pchkC), (13, qatC)], false, 0, [], false⟩ (noAnn) [] Try.f3 (em_lqc (l, x)) (.bool true)) = (((((!true) = true) → ((true = false) ∧ (True))) ∧ (((!true) = false) → (((decide ((400 : Int) < (↑l.length : Int)) = true) → ((true = true) ∧ (True))) ∧ ((decide ((400 : Int) < (↑l.length : Int)) = false) → ((((!decide (chkT (tri l) = chkT (tri l))) = true) → ((true = false) ∧ (True))) ∧ (((!decide (chkT (tri l) = chkT (tri l))) = false) → ((((!decide (chkT (tri l) = (0 : Int))) = true) → (((decide (pAtE (tri l) x = chkT (tri l)) = true) → ((decide (pAtV (tri l) x = (0 : Int)) = true) ∧ (True))) ∧ ((decide (pAtE (tri l) x = chkT (tri l)) = false) → ((true = false) ∧ (True))))) ∧ (((!decide (chkT (tri l) = (0 : Int))) = false) → (((decide (x < (0 : Int)) = true) → (((decide (pAtE (tri l) x = (1 : Int)) = true) → ((decide (pAtV (tri l) x = (0 : Int)) = true) ∧ (True))) ∧ ((decide (pAtE (tri l) x = (1 : Int)) = false) → ((true = false) ∧ (True))))) ∧ ((decide (x < (0 : Int)) = false) → (((decide ((10000000000 : Int) < x) = true) → (((decide (pAtE (tri l) x = (1 : Int)) = true) → ((decide (pAtV (tri l) x = (0 : Int)) = true) ∧ (True))) ∧ ((decide (pAtE (tri l) x = (1 : Int)) = false) → ((true = false) ∧ (True))))) ∧ ((decide ((10000000000 : Int) < x) = false) → (((decide (pAtE (tri l) x = (0 : Int)) = true) → (Ob (((l.length ≤ (100000 : Nat)) ∧ ((goodL (tri l)) ∧ (((-1 : Int) ≤ x) ∧ (x ≤ (10000000000 : Int)))))) ∧ ((decide (pAtV (tri l) x = atN x (tri l) (0 : Int)) = true) ∧ (True)))) ∧ ((decide (pAtE (tri l) x = (0 : Int)) = false) → ((true = false) ∧ (True))))))))))))))))) := by kernel_rfl
def sh_lqa : List SV → Option ((List SV) × (List SV) × Int)
  | [l', m', .int .i64 t] => (match slOf [.int .i64, .int .i64, .int .i64] l' with | some l => (match slOf [.int .i64, .int .i64, .int .i64] m' with | some m => some (l, m, t) | _ => none) | _ => none)
  | _ => none
def em_lqa : (List SV) × (List SV) × Int → List SV := fun (l, m, t) => [.sl [.int .i64, .int .i64, .int .i64] l, .sl [.int .i64, .int .i64, .int .i64] m, .int .i64 t]
theorem sh_lqa_le : ∀ us a, sh_lqa us = some a → leL us (em_lqa a) := by
  intro us a h
  unfold sh_lqa at h
  split at h
  · split at h
    · split at h
      · cases h; exact (.cons (.sl (by assumption)) (.cons (.sl (by assumption)) (.cons (.refl _) .nil)))
      · cases h
    · cases h
  · cases h
def lqaC : Con := conOf sh_lqa (fun (l, m, t) => some (Ob (wfL [.int .i64, .int .i64, .int .i64] l ∧ wfL [.int .i64, .int .i64, .int .i64] m ∧ in64 t))) (fun (l, m, t) => .bool true)
set_option maxRecDepth 100000 in
theorem vc_lqa (l : List SV) (m : List SV) (t : Int) : (wpF ⟨141, tyT, [(9, qgoesC), (14, paddC), (10, qwrongC), (15, qnearC), (13, qatC)], false, 0, [], false⟩ ((lqa_an l m t)) [] Try.f4 (em_lqa (l, m, t)) (.bool true)) = (((((!true) = true) → ((true = false) ∧ (True))) ∧ (((!true) = false) → (((decide ((60 : Int) < (↑l.length : Int)) = true) → ((true = true) ∧ (True))) ∧ ((decide ((60 : Int) < (↑l.length : Int)) = false) → (((decide ((60 : Int) < (↑m.length : Int)) = true) → ((true = true) ∧ (True))) ∧ ((decide ((60 : Int) < (↑m.length : Int)) = false) → ((((!decide (chkT (tri l) = (0 : Int))) = true) → (((decide (addE (tri l) (tri m) t = chkT (tri l)) = true) → ((decide ((↑(lnSV (addV (tri l) (tri m) t)).length : Int) = (0 : Int)) = true) ∧ (True))) ∧ ((decide (addE (tri l) (tri m) t = chkT (tri l)) = false) → ((true = false) ∧ (True))))) ∧ (((!decide (chkT (tri l) = (0 : Int))) = false) → ((((!decide (chkT (tri m) = (0 : Int))) = true) → (((decide (addE (tri l) (tri m) t = chkT (tri m)) = true) → ((decide ((↑(lnSV (addV (tri l) (tri m) t)).length : Int) = (0 : Int)) = true) ∧ (True))) ∧ ((decide (addE (tri l) (tri m) t = chkT (tri m)) = false) → ((true = false) ∧ (True))))) ∧ (((!decide (chkT (tri m) = (0 : Int))) = false) → (((decide (t < (-1 : Int)) = true) → (((decide (addE (tri l) (tri m) t = (1 : Int)) = true) → ((decide ((↑(lnSV (addV (tri l) (tri m) t)).length : Int) = (0 : Int)) = true) ∧ (True))) ∧ ((decide (addE (tri l) (tri m) t = (1 : Int)) = false) → ((true = false) ∧ (True))))) ∧ ((decide (t < (-1 : Int)) = false) → (((decide ((1 : Int) < t) = true) → (((decide (addE (tri l) (tri m) t = (1 : Int)) = true) → ((decide ((↑(lnSV (addV (tri l) (tri m) t)).length : Int) = (0 : Int)) = true) ∧ (True))) ∧ ((decide (addE (tri l) (tri m) t = (1 : Int)) = false) → ((true = false) ∧ (True))))) ∧ ((decide ((1 : Int) < t) = false) → ((((!decide (addE (tri l) (tri m) t = (0 : Int))) = true) → (((decide (addE (tri l) (tri m) t = (50 : Int)) = true) → ((decide ((↑(lnSV (addV (tri l) (tri m) t)).length : Int) = (0 : Int)) = true) ∧ (True))) ∧ ((decide (addE (tri l) (tri m) t = (50 : Int)) = false) → (((decide (addE (tri l) (tri m) t = (10 : Int)) = true) → ((decide ((↑(lnSV (addV (tri l) (tri m) t)).length : Int) = (0 : Int)) = true) ∧ (True))) ∧ ((decide (addE (tri l) (tri m) t = (10 : Int)) = false) → ((true = false) ∧ (True))))))) ∧ (((!decide (addE (tri l) (tri m) t = (0 : Int))) = false) → (Ob ((((l ++ m).length ≤ (10000 : Nat)) ∧ (goodL (tri l ++ tri m)))) ∧ ((∃ (x1 : Nat), ((l = l) ∧ ((m = m) ∧ ((t = t) ∧ ((lnSV (addV (tri l) (tri m) t) = lnSV (addV (tri l) (tri m) t)) ∧ ((iSV (nearT (tri l) (tri m)) = iSV (nearT (tri l) (tri m))) ∧ (((↑(iSV (nearT (tri l) (tri m))).length : Int) = (↑(nearT (tri l) (tri m)).length : Int)) ∧ (((0 : Int) = (↑x1 : Int)) ∧ (((x1 ≤ (nearT (tri l) (tri m)).length) ∧ ((l.length ≤ (60 : Nat)) ∧ ((m.length ≤ (60 : Nat)) ∧ ((chkT (tri l) = (0 : Int)) ∧ ((chkT (tri m) = (0 : Int)) ∧ ((addE (tri l) (tri m) t = (0 : Int)) ∧ (((-1 : Int) ≤ t) ∧ (t ≤ (1 : Int))))))))) ∧ ((True) ∧ (True))))))))))) ∧ (∀ (x2 : Nat), (((x2 ≤ (nearT (tri l) (tri m)).length) ∧ ((l.length ≤ (60 : Nat)) ∧ ((m.length ≤ (60 : Nat)) ∧ ((chkT (tri l) = (0 : Int)) ∧ ((chkT (tri m) = (0 : Int)) ∧ ((addE (tri l) (tri m) t = (0 : Int)) ∧ (((-1 : Int) ≤ t) ∧ (t ≤ (1 : Int))))))))) → (((decide ((↑x2 : Int) < (↑(nearT (tri l) (tri m)).length : Int)) = true) → (Ob ((((0 : Int) ≤ (↑x2 : Int)) ∧ ((↑x2 : Int) < (↑(iSV (nearT (tri l) (tri m))).length : Int)))) ∧ (Ob ((((lnSV (addV (tri l) (tri m) t)).length ≤ (100000 : Nat)) ∧ ((goodL (tri (lnSV (addV (tri l) (tri m) t)))) ∧ (((-1 : Int) ≤ (elCell (iSV (nearT (tri l) (tri m))) x2 (0 : Nat)).toInt) ∧ ((elCell (iSV (nearT (tri l) (tri m))) x2 (0 : Nat)).toInt ≤ (10000000000 : Int)))))) ∧ (Ob (((l.length ≤ (100000 : Nat)) ∧ ((goodL (tri l)) ∧ (((-1 : Int) ≤ (elCell (iSV (nearT (tri l) (tri m))) x2 (0 : Nat)).toInt) ∧ ((elCell (iSV (nearT (tri l) (tri m))) x2 (0 : Nat)).toInt ≤ (10000000000 : Int)))))) ∧ (Ob (((m.length ≤ (100000 : Nat)) ∧ ((goodL (tri m)) ∧ (((-1 : Int) ≤ (elCell (iSV (nearT (tri l) (tri m))) x2 (0 : Nat)).toInt) ∧ ((elCell (iSV (nearT (tri l) (tri m))) x2 (0 : Nat)).toInt ≤ (10000000000 : Int)))))) ∧ ((((!decide (atN (elCell (iSV (nearT (tri l) (tri m))) x2 (0 : Nat)).toInt (tri (lnSV (addV (tri l) (tri m) t))) (0 : Int) = IntKind.i64.wrap (atN (elCell (iSV (nearT (tri l) (tri m))) x2 (0 : Nat)).toInt (tri l) (0 : Int) + IntKind.i64.wrap (t * atN (elCell (iSV (nearT (tri l) (tri m))) x2 (0 : Nat)).toInt (tri m) (0 : Int))))) = true) → ((true = false) ∧ (True))) ∧ (((!decide (atN (elCell (iSV (nearT (tri l) (tri m))) x2 (0 : Nat)).toInt (tri (lnSV (addV (tri l) (tri m) t))) (0 : Int) = IntKind.i64.wrap (atN (elCell (iSV (nearT (tri l) (tri m))) x2 (0 : Nat)).toInt (tri l) (0 : Int) + IntKind.i64.wrap (t * atN (elCell (iSV (nearT (tri l) (tri m))) x2 (0 : Nat)).toInt (tri m) (0 : Int))))) = false) → (∃ (x3 : Nat), ((l = l) ∧ ((m = m) ∧ ((t = t) ∧ ((lnSV (addV (tri l) (tri m) t) = lnSV (addV (tri l) (tri m) t)) ∧ ((iSV (nearT (tri l) (tri m)) = iSV (nearT (tri l) (tri m))) ∧ (((↑(nearT (tri l) (tri m)).length : Int) = (↑(nearT (tri l) (tri m)).length : Int)) ∧ ((IntKind.i64.wrap ((↑x2 : Int) + (1 : Int)) = (↑x3 : Int)) ∧ (((x3 ≤ (nearT (tri l) (tri m)).length) ∧ ((l.length ≤ (60 : Nat)) ∧ ((m.length ≤ (60 : Nat)) ∧ ((chkT (tri l) = (0 : Int)) ∧ ((chkT (tri m) = (0 : Int)) ∧ ((addE (tri l) (tri m) t = (0 : Int)) ∧ (((-1 : Int) ≤ t) ∧ (t ≤ (1 : Int))))))))) ∧ (((nearT (tri l) (tri m)).length - x3 < (nearT (tri l) (tri m)).length - x2) ∧ (True)))))))))))))))))) ∧ ((decide ((↑x2 : Int) < (↑(nearT (tri l) (tri m)).length : Int)) = false) → ((∃ (x4 : Nat), ((lnSV (addV (tri l) (tri m) t) = lnSV (addV (tri l) (tri m) t)) ∧ (((1 : Int) = (↑x4 : Int)) ∧ ((((1 : Nat) ≤ x4) ∧ ((x4 ≤ (addV (tri l) (tri m) t).length) ∧ ((chkT (tri l) = (0 : Int)) ∧ ((chkT (tri m) = (0 : Int)) ∧ (addE (tri l) (tri m) t = (0 : Int)))))) ∧ ((True) ∧ (True)))))) ∧ (∀ (x5 : Nat), ((((1 : Nat) ≤ x5) ∧ ((x5 ≤ (addV (tri l) (tri m) t).length) ∧ ((chkT (tri l) = (0 : Int)) ∧ ((chkT (tri m) = (0 : Int)) ∧ (addE (tri l) (tri m) t = (0 : Int)))))) → (((decide ((↑x5 : Int) < (↑(lnSV (addV (tri l) (tri m) t)).length : Int)) = true) → (Ob ((((0 : Int) ≤ (↑x5 : Int)) ∧ ((↑x5 : Int) < (↑(lnSV (addV (tri l) (tri m) t)).length : Int)))) ∧ (Ob ((((0 : Int) ≤ IntKind.i64.wrap ((↑x5 : Int) - (1 : Int))) ∧ (IntKind.i64.wrap ((↑x5 : Int) - (1 : Int)) < (↑(lnSV (addV (tri l) (tri m) t)).length : Int)))) ∧ (((decide ((elCell (lnSV (addV (tri l) (tri m) t)) x5 (2 : Nat)).toInt = (elCell (lnSV (addV (tri l) (tri m) t)) (IntKind.i64.wrap ((↑x5 : Int) - (1 : Int))).toNat (2 : Nat)).toInt) = true) → (Ob ((((0 : Int) ≤ (↑x5 : Int)) ∧ ((↑x5 : Int) ≤ (↑(lnSV (addV (tri l) (tri m) t)).length : Int)))) ∧ (Ob ((((0 : Int) ≤ (↑x5 : Int)) ∧ ((↑x5 : Int) < (↑(lnSV (addV (tri l) (tri m) t)).length : Int)))) ∧ (Ob ((((List.take x5 (lnSV (addV (tri l) (tri m) t))).length ≤ (100000 : Nat)) ∧ ((goodL (tri (List.take x5 (lnSV (addV (tri l) (tri m) t))))) ∧ (((-1 : Int) ≤ (elCell (lnSV (addV (tri l) (tri m) t)) x5 (0 : Nat)).toInt) ∧ ((elCell (lnSV (addV (tri l) (tri m) t)) x5 (0 : Nat)).toInt ≤ (10000000000 : Int)))))) ∧ (Ob ((((0 : Int) ≤ (↑x5 : Int)) ∧ ((↑x5 : Int) < (↑(lnSV (addV (tri l) (tri m) t)).length : Int)))) ∧ (((decide (atN (elCell (lnSV (addV (tri l) (tri m) t)) x5 (0 : Nat)).toInt (tri (List.take x5 (lnSV (addV (tri l) (tri m) t)))) (0 : Int) = (elCell (lnSV (addV (tri l) (tri m) t)) x5 (1 : Nat)).toInt) = true) → ((true = false) ∧ (True))) ∧ ((decide (atN (elCell (lnSV (addV (tri l) (tri m) t)) x5 (0 : Nat)).toInt (tri (List.take x5 (lnSV (addV (tri l) (tri m) t)))) (0 : Int) = (elCell (lnSV (addV (tri l) (tri m) t)) x5 (1 : Nat)).toInt) = false) → (∃ (x6 : Nat), ((lnSV (addV (tri l) (tri m) t) = lnSV (addV (tri l) (tri m) t)) ∧ ((IntKind.i64.wrap ((↑x5 : Int) + (1 : Int)) = (↑x6 : Int)) ∧ ((((1 : Nat) ≤ x6) ∧ ((x6 ≤ (addV (tri l) (tri m) t).length) ∧ ((chkT (tri l) = (0 : Int)) ∧ ((chkT (tri m) = (0 : Int)) ∧ (addE (tri l) (tri m) t = (0 : Int)))))) ∧ (((addV (tri l) (tri m) t).length - x6 < (addV (tri l) (tri m) t).length - x5) ∧ (True))))))))))))) ∧ ((decide ((elCell (lnSV (addV (tri l) (tri m) t)) x5 (2 : Nat)).toInt = (elCell (lnSV (addV (tri l) (tri m) t)) (IntKind.i64.wrap ((↑x5 : Int) - (1 : Int))).toNat (2 : Nat)).toInt) = false) → (∃ (x7 : Nat), ((lnSV (addV (tri l) (tri m) t) = lnSV (addV (tri l) (tri m) t)) ∧ ((IntKind.i64.wrap ((↑x5 : Int) + (1 : Int)) = (↑x7 : Int)) ∧ ((((1 : Nat) ≤ x7) ∧ ((x7 ≤ (addV (tri l) (tri m) t).length) ∧ ((chkT (tri l) = (0 : Int)) ∧ ((chkT (tri m) = (0 : Int)) ∧ (addE (tri l) (tri m) t = (0 : Int)))))) ∧ (((addV (tri l) (tri m) t).length - x7 < (addV (tri l) (tri m) t).length - x5) ∧ (True))))))))))) ∧ ((decide ((↑x5 : Int) < (↑(lnSV (addV (tri l) (tri m) t)).length : Int)) = false) → ((decide (chkT (tri (lnSV (addV (tri l) (tri m) t))) = (0 : Int)) = true) ∧ (True)))))))))))))))))))))))))))))) := by kernel_rfl
def sh_lqr : List SV → Option ((List SV) × Int)
  | [l', .int .i64 y] => (match slOf [.int .i64, .int .i64, .int .i64] l' with | some l => some (l, y) | _ => none)
  | _ => none
def em_lqr : (List SV) × Int → List SV := fun (l, y) => [.sl [.int .i64, .int .i64, .int .i64] l, .int .i64 y]
theorem sh_lqr_le : ∀ us a, sh_lqr us = some a → leL us (em_lqr a) := by
  intro us a h
  unfold sh_lqr at h
  split at h
  · split at h
    · cases h; exact (.cons (.sl (by assumption)) (.cons (.refl _) .nil))
    · cases h
  · cases h
def lqrC : Con := conOf sh_lqr (fun (l, y) => some (Ob (wfL [.int .i64, .int .i64, .int .i64] l ∧ in64 y))) (fun (l, y) => .bool true)
set_option maxRecDepth 100000 in
theorem vc_lqr (l : List SV) (y : Int) : (wpF ⟨141, tyT, [(9, qgoesC), (18, qreachC), (10, qwrongC), (19, qfallsC), (13, qatC)], false, 0, [], false⟩ ((lqr_an l y)) [] Try.f6 (em_lqr (l, y)) (.bool true)) = (((((!true) = true) → ((true = false) ∧ (True))) ∧ (((!true) = false) → (((decide ((60 : Int) < (↑l.length : Int)) = true) → ((true = true) ∧ (True))) ∧ ((decide ((60 : Int) < (↑l.length : Int)) = false) → ((((!decide (chkT (tri l) = (0 : Int))) = true) → (((decide (rchX (tri l) y = (0 : Int)) = true) → (((decide (rchC (tri l) y = (0 : Int)) = true) → (((!rchO (tri l) y) = true) ∧ (True))) ∧ ((decide (rchC (tri l) y = (0 : Int)) = false) → ((true = false) ∧ (True))))) ∧ ((decide (rchX (tri l) y = (0 : Int)) = false) → ((true = false) ∧ (True))))) ∧ (((!decide (chkT (tri l) = (0 : Int))) = false) → ((∃ (x1 : Nat), ((l = l) ∧ ((y = y) ∧ ((rchX (tri l) y = rchX (tri l) y) ∧ ((rchC (tri l) y = rchC (tri l) y) ∧ ((rchO (tri l) y = rchO (tri l) y) ∧ ((orN (flsB (tri l)) x1 = false) ∧ ((l = l) ∧ (((↑l.length : Int) = (↑l.length : Int)) ∧ (((0 : Int) = (↑x1 : Int)) ∧ (((x1 ≤ l.length) ∧ ((l.length ≤ (60 : Nat)) ∧ (chkT (tri l) = (0 : Int)))) ∧ ((True) ∧ (True))))))))))))) ∧ (∀ (x2 : Nat), (((x2 ≤ l.length) ∧ ((l.length ≤ (60 : Nat)) ∧ (chkT (tri l) = (0 : Int)))) → (((decide ((↑x2 : Int) < (↑l.length : Int)) = true) → (Ob ((((0 : Int) ≤ (↑x2 : Int)) ∧ ((↑x2 : Int) < (↑l.length : Int)))) ∧ (((decide (IntKind.i64.wrap ((↑x2 : Int) + (1 : Int)) < (↑l.length : Int)) = true) → (Ob ((((0 : Int) ≤ IntKind.i64.wrap ((↑x2 : Int) + (1 : Int))) ∧ (IntKind.i64.wrap ((↑x2 : Int) + (1 : Int)) < (↑l.length : Int)))) ∧ (((orN (flsB (tri l)) x2 = true) → (∃ (x3 : Nat), ((l = l) ∧ ((y = y) ∧ ((rchX (tri l) y = rchX (tri l) y) ∧ ((rchC (tri l) y = rchC (tri l) y) ∧ ((rchO (tri l) y = rchO (tri l) y) ∧ ((orN (flsB (tri l)) x3 = true) ∧ ((l = l) ∧ (((↑l.length : Int) = (↑l.length : Int)) ∧ ((IntKind.i64.wrap ((↑x2 : Int) + (1 : Int)) = (↑x3 : Int)) ∧ (((x3 ≤ l.length) ∧ ((l.length ≤ (60 : Nat)) ∧ (chkT (tri l) = (0 : Int)))) ∧ ((l.length - x3 < l.length - x2) ∧ (True)))))))))))))) ∧ ((orN (flsB (tri l)) x2 = false) → (((decide ((elCell l x2 (2 : Nat)).toInt < (0 : Int)) = true) → (((decide ((elCell l x2 (0 : Nat)).toInt < IntKind.i64.wrap ((elCell l (IntKind.i64.wrap ((↑x2 : Int) + (1 : Int))).toNat (0 : Nat)).toInt - (1 : Int))) = true) → (∃ (x4 : Nat), ((l = l) ∧ ((y = y) ∧ ((rchX (tri l) y = rchX (tri l) y) ∧ ((rchC (tri l) y = rchC (tri l) y) ∧ ((rchO (tri l) y = rchO (tri l) y) ∧ ((orN (flsB (tri l)) x4 = true) ∧ ((l = l) ∧ (((↑l.length : Int) = (↑l.length : Int)) ∧ ((IntKind.i64.wrap ((↑x2 : Int) + (1 : Int)) = (↑x4 : Int)) ∧ (((x4 ≤ l.length) ∧ ((l.length ≤ (60 : Nat)) ∧ (chkT (tri l) = (0 : Int)))) ∧ ((l.length - x4 < l.length - x2) ∧ (True)))))))))))))) ∧ ((decide ((elCell l x2 (0 : Nat)).toInt < IntKind.i64.wrap ((elCell l (IntKind.i64.wrap ((↑x2 : Int) + (1 : Int))).toNat (0 : Nat)).toInt - (1 : Int))) = false) → (((decide ((0 : Int) < (↑x2 : Int)) = true) → (Ob ((((0 : Int) ≤ (↑x2 : Int)) ∧ ((↑x2 : Int) ≤ (↑l.length : Int)))) ∧ (Ob ((((List.take x2 l).length ≤ (100000 : Nat)) ∧ ((goodL (tri (List.take x2 l))) ∧ (((-1 : Int) ≤ IntKind.i64.wrap ((elCell l x2 (0 : Nat)).toInt - (1 : Int))) ∧ (IntKind.i64.wrap ((elCell l x2 (0 : Nat)).toInt - (1 : Int)) ≤ (10000000000 : Int)))))) ∧ (∃ (x5 : Nat), ((l = l) ∧ ((y = y) ∧ ((rchX (tri l) y = rchX (tri l) y) ∧ ((rchC (tri l) y = rchC (tri l) y) ∧ ((rchO (tri l) y = rchO (tri l) y) ∧ ((decide ((elCell l x2 (1 : Nat)).toInt < atN (IntKind.i64.wrap ((elCell l x2 (0 : Nat)).toInt - (1 : Int))) (tri (List.take x2 l)) (0 : Int)) = orN (flsB (tri l)) x5) ∧ ((l = l) ∧ (((↑l.length : Int) = (↑l.length : Int)) ∧ ((IntKind.i64.wrap ((↑x2 : Int) + (1 : Int)) = (↑x5 : Int)) ∧ (((x5 ≤ l.length) ∧ ((l.length ≤ (60 : Nat)) ∧ (chkT (tri l) = (0 : Int)))) ∧ ((l.length - x5 < l.length - x2) ∧ (True)))))))))))))))) ∧ ((decide ((0 : Int) < (↑x2 : Int)) = false) → (∃ (x6 : Nat), ((l = l) ∧ ((y = y) ∧ ((rchX (tri l) y = rchX (tri l) y) ∧ ((rchC (tri l) y = rchC (tri l) y) ∧ ((rchO (tri l) y = rchO (tri l) y) ∧ ((orN (flsB (tri l)) x6 = false) ∧ ((l = l) ∧ (((↑l.length : Int) = (↑l.length : Int)) ∧ ((IntKind.i64.wrap ((↑x2 : Int) + (1 : Int)) = (↑x6 : Int)) ∧ (((x6 ≤ l.length) ∧ ((l.length ≤ (60 : Nat)) ∧ (chkT (tri l) = (0 : Int)))) ∧ ((l.length - x6 < l.length - x2) ∧ (True)))))))))))))))))) ∧ ((decide ((elCell l x2 (2 : Nat)).toInt < (0 : Int)) = false) → (((decide ((0 : Int) < (↑x2 : Int)) = true) → (Ob ((((0 : Int) ≤ (↑x2 : Int)) ∧ ((↑x2 : Int) ≤ (↑l.length : Int)))) ∧ (Ob ((((List.take x2 l).length ≤ (100000 : Nat)) ∧ ((goodL (tri (List.take x2 l))) ∧ (((-1 : Int) ≤ IntKind.i64.wrap ((elCell l x2 (0 : Nat)).toInt - (1 : Int))) ∧ (IntKind.i64.wrap ((elCell l x2 (0 : Nat)).toInt - (1 : Int)) ≤ (10000000000 : Int)))))) ∧ (∃ (x7 : Nat), ((l = l) ∧ ((y = y) ∧ ((rchX (tri l) y = rchX (tri l) y) ∧ ((rchC (tri l) y = rchC (tri l) y) ∧ ((rchO (tri l) y = rchO (tri l) y) ∧ ((decide ((elCell l x2 (1 : Nat)).toInt < atN (IntKind.i64.wrap ((elCell l x2 (0 : Nat)).toInt - (1 : Int))) (tri (List.take x2 l)) (0 : Int)) = orN (flsB (tri l)) x7) ∧ ((l = l) ∧ (((↑l.length : Int) = (↑l.length : Int)) ∧ ((IntKind.i64.wrap ((↑x2 : Int) + (1 : Int)) = (↑x7 : Int)) ∧ (((x7 ≤ l.length) ∧ ((l.length ≤ (60 : Nat)) ∧ (chkT (tri l) = (0 : Int)))) ∧ ((l.length - x7 < l.length - x2) ∧ (True)))))))))))))))) ∧ ((decide ((0 : Int) < (↑x2 : Int)) = false) → (∃ (x8 : Nat), ((l = l) ∧ ((y = y) ∧ ((rchX (tri l) y = rchX (tri l) y) ∧ ((rchC (tri l) y = rchC (tri l) y) ∧ ((rchO (tri l) y = rchO (tri l) y) ∧ ((orN (flsB (tri l)) x8 = false) ∧ ((l = l) ∧ (((↑l.length : Int) = (↑l.length : Int)) ∧ ((IntKind.i64.wrap ((↑x2 : Int) + (1 : Int)) = (↑x8 : Int)) ∧ (((x8 ≤ l.length) ∧ ((l.length ≤ (60 : Nat)) ∧ (chkT (tri l) = (0 : Int)))) ∧ ((l.length - x8 < l.length - x2) ∧ (True))))))))))))))))))))) ∧ ((decide (IntKind.i64.wrap ((↑x2 : Int) + (1 : Int)) < (↑l.length : Int)) = false) → (((orN (flsB (tri l)) x2 = true) → (∃ (x9 : Nat), ((l = l) ∧ ((y = y) ∧ ((rchX (tri l) y = rchX (tri l) y) ∧ ((rchC (tri l) y = rchC (tri l) y) ∧ ((rchO (tri l) y = rchO (tri l) y) ∧ ((orN (flsB (tri l)) x9 = true) ∧ ((l = l) ∧ (((↑l.length : Int) = (↑l.length : Int)) ∧ ((IntKind.i64.wrap ((↑x2 : Int) + (1 : Int)) = (↑x9 : Int)) ∧ (((x9 ≤ l.length) ∧ ((l.length ≤ (60 : Nat)) ∧ (chkT (tri l) = (0 : Int)))) ∧ ((l.length - x9 < l.length - x2) ∧ (True)))))))))))))) ∧ ((orN (flsB (tri l)) x2 = false) → (((decide ((elCell l x2 (2 : Nat)).toInt < (0 : Int)) = true) → (((decide ((elCell l x2 (0 : Nat)).toInt < (10000000000 : Int)) = true) → (∃ (x10 : Nat), ((l = l) ∧ ((y = y) ∧ ((rchX (tri l) y = rchX (tri l) y) ∧ ((rchC (tri l) y = rchC (tri l) y) ∧ ((rchO (tri l) y = rchO (tri l) y) ∧ ((orN (flsB (tri l)) x10 = true) ∧ ((l = l) ∧ (((↑l.length : Int) = (↑l.length : Int)) ∧ ((IntKind.i64.wrap ((↑x2 : Int) + (1 : Int)) = (↑x10 : Int)) ∧ (((x10 ≤ l.length) ∧ ((l.length ≤ (60 : Nat)) ∧ (chkT (tri l) = (0 : Int)))) ∧ ((l.length - x10 < l.length - x2) ∧ (True)))))))))))))) ∧ ((decide ((elCell l x2 (0 : Nat)).toInt < (10000000000 : Int)) = false) → (((decide ((0 : Int) < (↑x2 : Int)) = true) → (Ob ((((0 : Int) ≤ (↑x2 : Int)) ∧ ((↑x2 : Int) ≤ (↑l.length : Int)))) ∧ (Ob ((((List.take x2 l).length ≤ (100000 : Nat)) ∧ ((goodL (tri (List.take x2 l))) ∧ (((-1 : Int) ≤ IntKind.i64.wrap ((elCell l x2 (0 : Nat)).toInt - (1 : Int))) ∧ (IntKind.i64.wrap ((elCell l x2 (0 : Nat)).toInt - (1 : Int)) ≤ (10000000000 : Int)))))) ∧ (∃ (x11 : Nat), ((l = l) ∧ ((y = y) ∧ ((rchX (tri l) y = rchX (tri l) y) ∧ ((rchC (tri l) y = rchC (tri l) y) ∧ ((rchO (tri l) y = rchO (tri l) y) ∧ ((decide ((elCell l x2 (1 : Nat)).toInt < atN (IntKind.i64.wrap ((elCell l x2 (0 : Nat)).toInt - (1 : Int))) (tri (List.take x2 l)) (0 : Int)) = orN (flsB (tri l)) x11) ∧ ((l = l) ∧ (((↑l.length : Int) = (↑l.length : Int)) ∧ ((IntKind.i64.wrap ((↑x2 : Int) + (1 : Int)) = (↑x11 : Int)) ∧ (((x11 ≤ l.length) ∧ ((l.length ≤ (60 : Nat)) ∧ (chkT (tri l) = (0 : Int)))) ∧ ((l.length - x11 < l.length - x2) ∧ (True)))))))))))))))) ∧ ((decide ((0 : Int) < (↑x2 : Int)) = false) → (∃ (x12 : Nat), ((l = l) ∧ ((y = y) ∧ ((rchX (tri l) y = rchX (tri l) y) ∧ ((rchC (tri l) y = rchC (tri l) y) ∧ ((rchO (tri l) y = rchO (tri l) y) ∧ ((orN (flsB (tri l)) x12 = false) ∧ ((l = l) ∧ (((↑l.length : Int) = (↑l.length : Int)) ∧ ((IntKind.i64.wrap ((↑x2 : Int) + (1 : Int)) = (↑x12 : Int)) ∧ (((x12 ≤ l.length) ∧ ((l.length ≤ (60 : Nat)) ∧ (chkT (tri l) = (0 : Int)))) ∧ ((l.length - x12 < l.length - x2) ∧ (True)))))))))))))))))) ∧ ((decide ((elCell l x2 (2 : Nat)).toInt < (0 : Int)) = false) → (((decide ((0 : Int) < (↑x2 : Int)) = true) → (Ob ((((0 : Int) ≤ (↑x2 : Int)) ∧ ((↑x2 : Int) ≤ (↑l.length : Int)))) ∧ (Ob ((((List.take x2 l).length ≤ (100000 : Nat)) ∧ ((goodL (tri (List.take x2 l))) ∧ (((-1 : Int) ≤ IntKind.i64.wrap ((elCell l x2 (0 : Nat)).toInt - (1 : Int))) ∧ (IntKind.i64.wrap ((elCell l x2 (0 : Nat)).toInt - (1 : Int)) ≤ (10000000000 : Int)))))) ∧ (∃ (x13 : Nat), ((l = l) ∧ ((y = y) ∧ ((rchX (tri l) y = rchX (tri l) y) ∧ ((rchC (tri l) y = rchC (tri l) y) ∧ ((rchO (tri l) y = rchO (tri l) y) ∧ ((decide ((elCell l x2 (1 : Nat)).toInt < atN (IntKind.i64.wrap ((elCell l x2 (0 : Nat)).toInt - (1 : Int))) (tri (List.take x2 l)) (0 : Int)) = orN (flsB (tri l)) x13) ∧ ((l = l) ∧ (((↑l.length : Int) = (↑l.length : Int)) ∧ ((IntKind.i64.wrap ((↑x2 : Int) + (1 : Int)) = (↑x13 : Int)) ∧ (((x13 ≤ l.length) ∧ ((l.length ≤ (60 : Nat)) ∧ (chkT (tri l) = (0 : Int)))) ∧ ((l.length - x13 < l.length - x2) ∧ (True)))))))))))))))) ∧ ((decide ((0 : Int) < (↑x2 : Int)) = false) → (∃ (x14 : Nat), ((l = l) ∧ ((y = y) ∧ ((rchX (tri l) y = rchX (tri l) y) ∧ ((rchC (tri l) y = rchC (tri l) y) ∧ ((rchO (tri l) y = rchO (tri l) y) ∧ ((orN (flsB (tri l)) x14 = false) ∧ ((l = l) ∧ (((↑l.length : Int) = (↑l.length : Int)) ∧ ((IntKind.i64.wrap ((↑x2 : Int) + (1 : Int)) = (↑x14 : Int)) ∧ (((x14 ≤ l.length) ∧ ((l.length ≤ (60 : Nat)) ∧ (chkT (tri l) = (0 : Int)))) ∧ ((l.length - x14 < l.length - x2) ∧ (True))))))))))))))))))))))) ∧ ((decide ((↑x2 : Int) < (↑l.length : Int)) = false) → (Ob ((chkT (tri l) = (0 : Int))) ∧ ((((!flsT (tri l) == orN (flsB (tri l)) x2) = true) → ((true = false) ∧ (True))) ∧ (((!flsT (tri l) == orN (flsB (tri l)) x2) = false) → (((orN (flsB (tri l)) x2 = true) → ((true = true) ∧ (True))) ∧ ((orN (flsB (tri l)) x2 = false) → (((decide ((4000000000000000 : Int) < y) = true) → ((true = true) ∧ (True))) ∧ ((decide ((4000000000000000 : Int) < y) = false) → (((decide (y < (-4000000000000000 : Int)) = true) → ((true = true) ∧ (True))) ∧ ((decide (y < (-4000000000000000 : Int)) = false) → ((((!rchO (tri l) y) = true) → (((decide (rchX (tri l) y = (0 : Int)) = true) → (((decide (rchC (tri l) y = (↑l.length : Int)) = true) → (Ob (((l.length ≤ (100000 : Nat)) ∧ ((goodL (tri l)) ∧ (((-1 : Int) ≤ (10000000000 : Int)) ∧ ((10000000000 : Int) ≤ (10000000000 : Int)))))) ∧ ((decide (atN (10000000000 : Int) (tri l) (0 : Int) < y) = true) ∧ (True)))) ∧ ((decide (rchC (tri l) y = (↑l.length : Int)) = false) → ((true = false) ∧ (True))))) ∧ ((decide (rchX (tri l) y = (0 : Int)) = false) → ((true = false) ∧ (True))))) ∧ (((!rchO (tri l) y) = false) → (((decide ((1 : Int) ≤ rchC (tri l) y) = true) → (((decide (rchC (tri l) y ≤ (↑l.length : Int)) = true) → (Ob (((l.length ≤ (100000 : Nat)) ∧ ((goodL (tri l)) ∧ (((-1 : Int) ≤ rchX (tri l) y) ∧ (rchX (tri l) y ≤ (10000000000 : Int)))))) ∧ (((decide (y ≤ atN (rchX (tri l) y) (tri l) (0 : Int)) = true) → (((decide (rchX (tri l) y = (0 : Int)) = true) → ((true = true) ∧ (True))) ∧ ((decide (rchX (tri l) y = (0 : Int)) = false) → (Ob (((l.length ≤ (100000 : Nat)) ∧ ((goodL (tri l)) ∧ (((-1 : Int) ≤ IntKind.i64.wrap (rchX (tri l) y - (1 : Int))) ∧ (IntKind.i64.wrap (rchX (tri l) y - (1 : Int)) ≤ (10000000000 : Int)))))) ∧ ((decide (atN (IntKind.i64.wrap (rchX (tri l) y - (1 : Int))) (tri l) (0 : Int) < y) = true) ∧ (True)))))) ∧ ((decide (y ≤ atN (rchX (tri l) y) (tri l) (0 : Int)) = false) → ((true = false) ∧ (True)))))) ∧ ((decide (rchC (tri l) y ≤ (↑l.length : Int)) = false) → ((true = false) ∧ (True))))) ∧ ((decide ((1 : Int) ≤ rchC (tri l) y) = false) → ((true = false) ∧ (True))))))))))))))))))))))))))) := by kernel_rfl
def sh_lqco : List SV → Option (Int × Int × Int)
  | [.int .i64 c, .int .i64 r, .int .i64 x] => some (c, r, x)
  | _ => none
def em_lqco : Int × Int × Int → List SV := fun (c, r, x) => [.int .i64 c, .int .i64 r, .int .i64 x]
theorem sh_lqco_le : ∀ us a, sh_lqco us = some a → leL us (em_lqco a) := by
  intro us a h
  unfold sh_lqco at h
  split at h
  · cases h; exact (.cons (.refl _) (.cons (.refl _) (.cons (.refl _) .nil)))
  · cases h
def lqcoC : Con := conOf sh_lqco (fun (c, r, x) => some (Ob (in64 c ∧ in64 r ∧ in64 x))) (fun (c, r, x) => .bool true)
set_option maxRecDepth 100000 in
theorem vc_lqco (c : Int) (r : Int) (x : Int) : (wpF ⟨94, tyT, [(9, qgoesC), (20, cornerC), (21, straightC), (11, patC), (16, leastC)], false, 0, [], false⟩ (noAnn) [] Try.f7 (em_lqco (c, r, x)) (.bool true)) = (((((!true) = true) → ((true = false) ∧ (True))) ∧ (((!true) = false) → (((decide ((10000000000 : Int) < c) = true) → ((true = true) ∧ (True))) ∧ ((decide ((10000000000 : Int) < c) = false) → (((decide (c < (-10000000000 : Int)) = true) → ((true = true) ∧ (True))) ∧ ((decide (c < (-10000000000 : Int)) = false) → (((decide (r < (0 : Int)) = true) → ((true = true) ∧ (True))) ∧ ((decide (r < (0 : Int)) = false) → (((decide ((10000 : Int) < r) = true) → ((true = true) ∧ (True))) ∧ ((decide ((10000 : Int) < r) = false) → (((decide (x < (0 : Int)) = true) → ((true = true) ∧ (True))) ∧ ((decide (x < (0 : Int)) = false) → (((decide ((10000000000 : Int) < x) = true) → ((true = true) ∧ (True))) ∧ ((decide ((10000000000 : Int) < x) = false) → (Ob ((((-10000000000 : Int) ≤ c) ∧ (((0 : Int) ≤ r) ∧ (r ≤ (10000 : Int))))) ∧ ((((!decide (pAtE (tri (lnSV (cornT c r))) x = (0 : Int))) = true) → (((decide (c < (0 : Int)) = true) → ((decide (pAtE (tri (lnSV (cornT c r))) x = (10 : Int)) = true) ∧ (True))) ∧ ((decide (c < (0 : Int)) = false) → ((true = false) ∧ (True))))) ∧ (((!decide (pAtE (tri (lnSV (cornT c r))) x = (0 : Int))) = false) → ((((!decide (pAtV (tri (lnSV (cornT c r))) x = IntKind.i64.wrap (maxV (0 : Int) (IntKind.i64.wrap (x - c)) * r))) = true) → (((decide (c < (0 : Int)) = true) → ((decide (pAtE (tri (lnSV (cornT c r))) x = (10 : Int)) = true) ∧ (True))) ∧ ((decide (c < (0 : Int)) = false) → ((true = false) ∧ (True))))) ∧ (((!decide (pAtV (tri (lnSV (cornT c r))) x = IntKind.i64.wrap (maxV (0 : Int) (IntKind.i64.wrap (x - c)) * r))) = false) → (((decide (lstE (tri (lnSV (cornT c r))) (tri [SV.agg [SV.int IntKind.i64 (0 : Int), SV.int IntKind.i64 (5000 : Int), SV.int IntKind.i64 (0 : Int)]]) = (0 : Int)) = true) → (((decide (pAtE (tri (lnSV (lstV (tri (lnSV (cornT c r))) (tri [SV.agg [SV.int IntKind.i64 (0 : Int), SV.int IntKind.i64 (5000 : Int), SV.int IntKind.i64 (0 : Int)]])))) x = (0 : Int)) = true) → (((decide (pAtV (tri (lnSV (lstV (tri (lnSV (cornT c r))) (tri [SV.agg [SV.int IntKind.i64 (0 : Int), SV.int IntKind.i64 (5000 : Int), SV.int IntKind.i64 (0 : Int)]])))) x = minV (pAtV (tri (lnSV (cornT c r))) x) (5000 : Int)) = true) → ((decide ((↑(lnSV (lstV (tri (lnSV (cornT c r))) (tri [SV.agg [SV.int IntKind.i64 (0 : Int), SV.int IntKind.i64 (5000 : Int), SV.int IntKind.i64 (0 : Int)]]))).length : Int) ≤ (3 : Int)) = true) ∧ (True))) ∧ ((decide (pAtV (tri (lnSV (lstV (tri (lnSV (cornT c r))) (tri [SV.agg [SV.int IntKind.i64 (0 : Int), SV.int IntKind.i64 (5000 : Int), SV.int IntKind.i64 (0 : Int)]])))) x = minV (pAtV (tri (lnSV (cornT c r))) x) (5000 : Int)) = false) → ((true = false) ∧ (True))))) ∧ ((decide (pAtE (tri (lnSV (lstV (tri (lnSV (cornT c r))) (tri [SV.agg [SV.int IntKind.i64 (0 : Int), SV.int IntKind.i64 (5000 : Int), SV.int IntKind.i64 (0 : Int)]])))) x = (0 : Int)) = false) → ((true = false) ∧ (True))))) ∧ ((decide (lstE (tri (lnSV (cornT c r))) (tri [SV.agg [SV.int IntKind.i64 (0 : Int), SV.int IntKind.i64 (5000 : Int), SV.int IntKind.i64 (0 : Int)]]) = (0 : Int)) = false) → ((true = false) ∧ (True)))))))))))))))))))))))) := by kernel_rfl
theorem lqc_facts (L : List Ln) (x : Int) : (chkT L ≠ 0 → pAtE L x = chkT L ∧ pAtV L x = 0) ∧ (chkT L = 0 → (x < 0 ∨ 10000000000 < x) → pAtE L x = 1 ∧ pAtV L x = 0) ∧
    (chkT L = 0 → 0 ≤ x → x ≤ 10000000000 → pAtE L x = 0 ∧ pAtV L x = atN x L 0 ∧ pAtV L x = vAt L x) := by
  refine ⟨fun h => ?_, fun h h2 => ?_, fun h h0 h1 => ?_⟩
  · have e : pAtE L x = chkT L := by unfold pAtE; rw [if_neg h]
    exact ⟨e, by unfold pAtV; rw [e, if_neg h]⟩
  · have e : pAtE L x = 1 := by unfold pAtE; rw [if_pos h, if_pos h2]
    exact ⟨e, by unfold pAtV; rw [e, if_neg (by decide)]⟩
  · have e : pAtE L x = 0 := by unfold pAtE; rw [if_pos h, if_neg (by omega)]
    have ev : pAtV L x = vAt L x := by unfold pAtV; rw [e, if_pos rfl]
    exact ⟨e, by rw [ev, frame_v (std_frame (chk_ok.1 h)) h0], ev⟩
theorem lqc_known : Known Try.prog 3 lqcC := by
  refine known1 (nt := 55) (An := fun (l, x) => noAnn) (labs := []) (lit := false) (em := em_lqc) sh_lqc_le (by kernel_rfl) mixedT tyT_ok (.cons qgoes_known (.cons qwrong_known (.cons pat_known (.cons pchk_known (.cons qat_known .nil))))) Try.func3 (by kernel_rfl) (fun a => by obtain ⟨l, x⟩ := a; kernel_rfl) (fun a => by obtain ⟨l, x⟩ := a; rfl) (fun a ha => ?_)
  obtain ⟨l, x⟩ := a
  replace ha : wfL [.int .i64, .int .i64, .int .i64] l ∧ in64 x := ha.out
  refine ⟨_, vc_lqc l x, ?_⟩
  have hl := tri_len l
  obtain ⟨f1, f2, f3⟩ := lqc_facts (tri l) x
  have hg : chkT (tri l) = 0 → goodL (tri l) := fun h => std_good (chk_ok.1 h)
  simp only [Int.reduceLE, Int.reduceLT, Int.reduceEq, Int.reduceNe, Nat.reduceLeDiff, Nat.reduceEqDiff, beq_eq_false_iff_ne, beq_iff_eq, decide_eq_decide, ne_eq, eq_self, true_and, and_true, and_self, and_false, false_and, Bool.not_true, Bool.not_false, Bool.false_eq_true, Bool.true_eq_false, false_implies, true_implies, implies_true, imp_false, not_true, not_false_eq_true, decide_eq_true_eq, decide_eq_false_iff_not, Bool.not_eq_true', Bool.not_eq_false', Bool.and_eq_true, Classical.not_not, decide_true, decide_false, Bool.and_true, Bool.true_and, if_true, if_false, Ob_iff]
  repeat' first | exact trivial | with_reducible rfl | exact hg (by assumption) | apply And.intro | apply Ob.mk | intro _
  all_goals first
    | omega
    | exact (f1 (by assumption)).1
    | exact (f1 (by assumption)).2
    | exact (f2 (by assumption) (by omega)).1
    | exact (f2 (by assumption) (by omega)).2
    | exact (f3 (by assumption) (by omega) (by omega)).1
    | exact (f3 (by assumption) (by omega) (by omega)).2.1
    | exact std_good (chk_ok.1 (by assumption))
    | exact absurd (f1 (by assumption)).1 (by assumption)
    | exact absurd (f2 (by assumption) (by omega)).1 (by assumption)
    | exact absurd (f3 (by assumption) (by omega) (by omega)).1 (by assumption)

theorem add_err {L M : List Ln} (t : Int) : (chkT L ≠ 0 → addE L M t = chkT L ∧ addV L M t = []) ∧ (chkT L = 0 → chkT M ≠ 0 → addE L M t = chkT M ∧ addV L M t = []) ∧
    (chkT L = 0 → chkT M = 0 → (t < -1 ∨ 1 < t) → addE L M t = 1 ∧ addV L M t = []) ∧ (addE L M t ≠ 0 → addV L M t = []) := by
  have z : addE L M t ≠ 0 → addV L M t = [] := fun h => by unfold addV; rw [if_neg h]
  refine ⟨fun h => ?_, fun h h2 => ?_, fun h h2 h3 => ?_, z⟩
  · have e : addE L M t = chkT L := by unfold addE bothE; rw [if_neg h, if_neg h]
    exact ⟨e, z (by rw [e]; exact h)⟩
  · have e : addE L M t = chkT M := by unfold addE bothE; rw [if_pos h, if_neg h2]
    exact ⟨e, z (by rw [e]; exact h2)⟩
  · have e : addE L M t = 1 := by unfold addE bothE; rw [if_pos h, if_pos h2, if_pos h3]
    exact ⟨e, z (by rw [e]; decide)⟩
theorem add_all {L M : List Ln} (hL : stdT L) (hM : stdT M) {t : Int} (h1 : -1 ≤ t) (h2 : t ≤ 1) (h3 : L.length ≤ 60) (h4 : M.length ≤ 60) : (addE L M t = 0 ∨ addE L M t = 50 ∨ addE L M t = 10) ∧
    (addE L M t = 0 → stdT (addV L M t) ∧ apart (addV L M t) ∧ ∀ x, 0 ≤ x → x ≤ 10000000000 → vAt (addV L M t) x = vAt L x + t * vAt M x) := by
  have ee : addE L M t = chkT (jnT (addT L M t)) := by unfold addE bothE; rw [if_pos (chk_ok.2 hL), if_pos (chk_ok.2 hM), if_neg (by omega)]; rfl
  obtain ⟨r1, r2⟩ := jn_rep (add_rep hL hM t)
  have hn : (jnT (addT L M t)).length ≤ 256 := by
    have a := jnN_len (addT L M t) (addT L M t).length
    have b := addT_len L M t
    have c := froms_len L M
    unfold jnT
    omega
  refine ⟨?_, fun h => ?_⟩
  · rw [ee]
    rcases frame_err r1.1 with h | ⟨h, _⟩ | ⟨_, _, h⟩ | ⟨_, h⟩
    · exact .inl h
    · omega
    · exact .inr (.inl h)
    · exact .inr (.inr h)
  · have e : addV L M t = jnT (addT L M t) := by unfold addV; rw [if_pos h]
    rw [e]
    rw [ee] at h
    exact ⟨chk_ok.1 h, r2, fun x h0 h1 => rep_v r1 h0 h1⟩
theorem atN_take {S : List Ln} {i : Nat} {x : Int} (h0 : 1 ≤ i) (h1 : i ≤ S.length) (h : (lnA S (i - 1)).1 ≤ x) (o : Int) : atN x (S.take i) o = atT (lnA S (i - 1)) x := by
  have e := take_lnA (L := S) (i := i - 1) (by omega)
  rw [show i - 1 + 1 = i by omega] at e
  rw [e, atN_app, atN, atN, if_pos h]
theorem good_app {L M : List Ln} (h : goodL L) (h2 : goodL M) : goodL (L ++ M) := fun a ha => (List.mem_append.1 ha).elim (h a) (h2 a)
theorem good_take {L : List Ln} (h : goodL L) (i : Nat) : goodL (L.take i) := fun a ha => h a (List.mem_of_mem_take ha)
theorem tri_take (l : List SV) (n : Nat) : tri (l.take n) = (tri l).take n := by unfold tri; rw [List.map_take]
theorem std_len {L : List Ln} (h : stdT L) : 1 ≤ L.length ∧ L.length ≤ 256 := ⟨h.1, h.2.1⟩
theorem lqa_known : Known Try.prog 4 lqaC := by
  refine known1 (nt := 141) (An := fun (l, m, t) => (lqa_an l m t)) (labs := []) (lit := false) (em := em_lqa) sh_lqa_le (by kernel_rfl) mixedT tyT_ok (.cons qgoes_known (.cons padd_known (.cons qwrong_known (.cons qnear_known (.cons qat_known .nil))))) Try.func4 (by kernel_rfl) (fun a => by obtain ⟨l, m, t⟩ := a; kernel_rfl) (fun a => by obtain ⟨l, m, t⟩ := a; rfl) (fun a ha => ?_)
  obtain ⟨l, m, t⟩ := a
  replace ha : wfL [.int .i64, .int .i64, .int .i64] l ∧ wfL [.int .i64, .int .i64, .int .i64] m ∧ in64 t := ha.out
  refine ⟨_, vc_lqa l m t, ?_⟩
  have hl := tri_len l
  have hm := tri_len m
  have hlm : (l ++ m).length = l.length + m.length := List.length_append
  have hnl := near_len (tri l) (tri m)
  obtain ⟨f1, f2, f3, f4⟩ := add_err (L := tri l) (M := tri m) t
  simp only [iA_cell, iSV_len]
  simp only [cell0, cell1, cell2, tri_lnSV, lnSV_len, tri_take, List.length_take]
  simp only [Int.reduceLE, Int.reduceLT, Int.reduceEq, Int.reduceNe, Nat.reduceLeDiff, Nat.reduceEqDiff, beq_eq_false_iff_ne, beq_iff_eq, decide_eq_decide, ne_eq, eq_self, true_and, and_true, and_self, and_false, false_and, Bool.not_true, Bool.not_false, Bool.false_eq_true, Bool.true_eq_false, false_implies, true_implies, implies_true, imp_false, not_true, not_false_eq_true, decide_eq_true_eq, decide_eq_false_iff_not, Bool.not_eq_true', Bool.not_eq_false', Bool.and_eq_true, Classical.not_not, decide_true, decide_false, Bool.and_true, Bool.true_and, if_true, if_false, Ob_iff]
  have vz : addV (tri l) (tri m) t = [] → ((addV (tri l) (tri m) t).length : Int) = 0 := fun h => by rw [h]; rfl
  refine fun hl60 hm60 => ⟨fun h => ⟨fun _ => vz (f1 h).2, (f1 h).1⟩, fun h => ⟨fun h2 => ⟨fun _ => vz (f2 h h2).2, (f2 h h2).1⟩, fun h2 => ⟨fun h3 => ⟨fun _ => vz (f3 h h2 (.inl h3)).2, (f3 h h2 (.inl h3)).1⟩, fun h3 => ⟨fun h4 => ⟨fun _ => vz (f3 h h2 (.inr h4)).2, (f3 h h2 (.inr h4)).1⟩, fun h4 => ?_⟩⟩⟩⟩
  have sl := chk_ok.1 h
  have sm := chk_ok.1 h2
  obtain ⟨a1, a2⟩ := add_all sl sm (t := t) (by omega) (by omega) (by omega) (by omega)
  refine ⟨fun h5 => ⟨fun _ => vz (f4 h5), fun h6 => ⟨fun _ => vz (f4 h5), by omega⟩⟩, fun h5 => ?_⟩
  obtain ⟨s1, s2, s3⟩ := a2 h5
  have sg := std_good s1
  obtain ⟨n1, n2⟩ := std_len s1
  refine ⟨⟨by omega, good_app (std_good sl) (std_good sm)⟩, ⟨0, rfl, by omega, by omega, by omega, h, h2, h5, by omega, by omega⟩, fun i ⟨i1, _⟩ => ⟨fun h6 => ?_, fun h6 => ⟨⟨1, rfl, by omega, by omega, h, h2, h5⟩, fun i ⟨j1, j2, _⟩ => ⟨fun h7 => ?_, fun _ => chk_ok.2 s1⟩⟩⟩⟩
  · have hx := near_in (iA_mem (X := nearT (tri l) (tri m)) (i := i) (by omega))
    have v1 := vAt_in sl hx.1 hx.2
    have v2 := vAt_in sm hx.1 hx.2
    have v3 := t_mul (x := vAt (tri m) (iA (nearT (tri l) (tri m)) i)) (t := t) (by omega) (by omega)
    refine ⟨by omega, ⟨by omega, sg, by omega, by omega⟩, ⟨by omega, std_good sl, by omega, by omega⟩, ⟨by omega, std_good sm, by omega, by omega⟩, ?_, fun _ => ⟨i + 1, by rw [wrapI (by omega)]; rfl, ⟨by omega, by omega, by omega, h, h2, h5, by omega, by omega⟩, by omega⟩⟩
    rw [frame_v (std_frame s1) hx.1, frame_v (std_frame sl) hx.1, frame_v (std_frame sm) hx.1, s3 _ hx.1 hx.2]
    rw [wrapI (n := t * vAt (tri m) (iA (nearT (tri l) (tri m)) i)) (by omega), wrapI (by omega)]
  · have hw : IntKind.i64.wrap ((i : Int) - 1) = ((i - 1 : Nat) : Int) := by rw [wrapI (by omega)]; omega
    have hw2 : IntKind.i64.wrap ((i : Int) + 1) = ((i + 1 : Nat) : Int) := by rw [wrapI (by omega)]; omega
    simp only [hw, hw2, Int.toNat_natCast]
    have st := s1.2.2 i (by omega)
    have ri := st.2.2.1 (by omega)
    have st1 := st.1
    have nx : ∃ x6 : Nat, ((i + 1 : Nat) : Int) = (x6 : Int) ∧ (1 ≤ x6 ∧ x6 ≤ (addV (tri l) (tri m) t).length ∧ chkT (tri l) = 0 ∧ chkT (tri m) = 0 ∧ addE (tri l) (tri m) t = 0) ∧ (addV (tri l) (tri m) t).length - x6 < (addV (tri l) (tri m) t).length - i :=
      ⟨i + 1, rfl, ⟨by omega, by omega, h, h2, h5⟩, by omega⟩
    refine ⟨by omega, by omega, fun h8 => ⟨by omega, by omega, ⟨by omega, good_take sg _, by omega, by omega⟩, by omega, ?_, fun _ => nx⟩, fun _ => nx⟩
    rw [atN_take j1 (by omega) (by omega)]
    intro hc
    have := s2 (i - 1) (by omega)
    rw [show i - 1 + 1 = i by omega] at this
    exact this ⟨h8.symm, hc⟩

theorem orN_fs (p : Nat → Bool) : ∀ n, orN p n = decide (fsN p n < n)
  | 0 => rfl
  | n + 1 => by
    obtain ⟨h1, h2, h3⟩ := fsN_spec p n
    rw [orN, orN_fs p n, fsN]
    split
    · rename_i h; simp [h]; omega
    · rename_i h
      split
      · rename_i hp; simp [hp]
      · rename_i hp; simp [hp]; omega
theorem rch_core {a : Ln} {y e : Int} (hv : ¬(y ≤ a.2.1 ∨ a.2.2 ≤ 0)) (he : a.1 ≤ e) (hit : y ≤ atT a e) : a.1 + 1 ≤ rchV a y ∧ rchV a y ≤ e ∧ y ≤ atT a (rchV a y) ∧ atT a (rchV a y - 1) < y := by
  obtain ⟨f, v, r⟩ := a
  have hit : y ≤ v + (e - f) * r := hit
  have hv : ¬(y ≤ v ∨ r ≤ 0) := hv
  have he : f ≤ e := he
  have hrp : 0 < r := by omega
  obtain ⟨q, hq⟩ : ∃ q, q = (y - v + r - 1).tdiv r := ⟨_, rfl⟩
  have hX : rchV (f, v, r) y = f + q := by unfold rchV; rw [if_neg hv, hq]
  have hq2 : q = (y - v + r - 1) / r := by rw [hq, Int.tdiv_eq_ediv_of_nonneg (by omega)]
  have k1 : q * r ≤ y - v + r - 1 := by rw [hq2]; exact Int.ediv_mul_le _ (by omega)
  have k2 : y - v + r - 1 < q * r + r := by
    have := Int.lt_ediv_add_one_mul_self (y - v + r - 1) hrp
    rw [← hq2, Int.add_mul, Int.one_mul] at this
    exact this
  have q1 : 1 ≤ q := by
    rcases Int.lt_or_le q 1 with h5 | h5
    · have := Int.mul_nonneg (show 0 ≤ -q by omega) (show 0 ≤ r by omega)
      rw [Int.neg_mul] at this
      omega
    · exact h5
  have qe : q ≤ e - f := by
    rcases Int.lt_or_le (e - f) q with h5 | h5
    · have := Int.mul_nonneg (show 0 ≤ q - 1 - (e - f) by omega) (show 0 ≤ r by omega)
      rw [Int.sub_mul, Int.sub_mul q, Int.one_mul] at this
      omega
    · exact h5
  rw [hX]
  refine ⟨by show f + 1 ≤ f + q; omega, by omega, ?_, ?_⟩
  · show y ≤ v + (f + q - f) * r
    rw [show f + q - f = q by omega]; omega
  · show v + (f + q - 1 - f) * r < y
    rw [show f + q - 1 - f = q - 1 by omega, Int.sub_mul, Int.one_mul]; omega
theorem rch_all {L : List Ln} (h : stdT L) (y : Int) : (rchO L y = false → rchX L y = 0 ∧ rchC L y = L.length ∧ atN 10000000000 L 0 < y) ∧
    (rchO L y = true → 1 ≤ rchC L y ∧ rchC L y ≤ L.length ∧ (0 ≤ rchX L y ∧ rchX L y ≤ 10000000000) ∧ y ≤ atN (rchX L y) L 0 ∧ (rchX L y ≠ 0 → atN (rchX L y - 1) L 0 < y)) := by
  have hc := chk_ok.2 h
  obtain ⟨n1, n2, n3⟩ := fsN_spec (rchB L y) L.length
  have hf := std_frame h
  refine ⟨fun ho => ?_, fun ho => ?_⟩
  · have hn : ¬ rchN L y < L.length := by unfold rchO at ho; simp [hc] at ho; omega
    refine ⟨by unfold rchX; rw [ho]; rfl, by unfold rchC; rw [if_pos hc, if_neg hn], ?_⟩
    have h1 := h.1
    obtain ⟨g1, g2, g3⟩ := frame_from hf (i := L.length - 1) (by omega)
    have ez : endT L (L.length - 1) = 10000000000 := by unfold endT; rw [if_neg (by omega)]
    rw [ez] at g2
    rw [frame_at hf (i := L.length - 1) (by omega) g2 (by rw [ez]; exact Int.le_refl _)]
    have := n2 (L.length - 1) (by unfold rchN at hn; omega)
    unfold rchB at this
    rw [ez] at this
    simpa using this
  · have hn : rchN L y < L.length := by unfold rchO at ho; simp [hc] at ho; exact ho
    have eC : rchC L y = rchN L y + 1 := by unfold rchC; rw [if_pos hc, if_pos hn]
    have eX : rchX L y = rchV (lnA L (rchN L y)) y := by unfold rchX; rw [if_pos ho]
    have hit : y ≤ atT (lnA L (rchN L y)) (endT L (rchN L y)) := by
      exact of_decide_eq_true (n3 hn)
    have miss : ∀ k, k < rchN L y → atT (lnA L k) (endT L k) < y := fun k hk => by
      have : decide (y ≤ atT (lnA L k) (endT L k)) = false := n2 k hk
      have := of_decide_eq_false this
      omega
    obtain ⟨n, hnn⟩ : ∃ n, rchN L y = n := ⟨_, rfl⟩
    rw [hnn] at hn eC eX hit miss
    obtain ⟨g1, g2, g3⟩ := frame_from hf hn
    have inn : ∀ x, (lnA L n).1 ≤ x → x ≤ endT L n → atN x L 0 = atT (lnA L n) x := fun x h1 h2 => frame_at hf hn h1 h2 0
    rw [eC, eX]
    refine ⟨by omega, by omega, ?_⟩
    have ev : atT (lnA L n) (endT L n) = (lnA L n).2.1 + (endT L n - (lnA L n).1) * (lnA L n).2.2 := rfl
    unfold rchV
    split
    · rename_i hv
      have hy : y ≤ (lnA L n).2.1 := by
        rcases hv with hv | hv
        · exact hv
        · have := Int.mul_nonneg (show 0 ≤ endT L n - (lnA L n).1 by omega) (show 0 ≤ -(lnA L n).2.2 by omega)
          rw [Int.mul_neg] at this
          omega
      refine ⟨⟨g1, by omega⟩, by rw [inn _ (Int.le_refl _) g2, at_from]; exact hy, fun hne => ?_⟩
      have hp : 0 < n := by
        rcases Nat.eq_zero_or_pos n with h0 | h0
        · subst h0; exact absurd hf.2.1 hne
        · exact h0
      have m := miss (n - 1) (by omega)
      have ez : endT L (n - 1) = (lnA L n).1 - 1 := by unfold endT; rw [if_pos (by omega), show n - 1 + 1 = n by omega]
      rw [ez] at m
      have r := hf.2.2.1 (n - 1) (by omega)
      rw [show n - 1 + 1 = n by omega] at r
      rw [frame_at hf (i := n - 1) (by omega) (by omega) (by rw [ez]; exact Int.le_refl _)]
      exact m
    · rename_i hv
      obtain ⟨k1, k2, k3, k4⟩ := rch_core hv g2 hit
      unfold rchV at k1 k2 k3 k4
      rw [if_neg hv] at k1 k2 k3 k4
      refine ⟨by omega, ?_, fun _ => ?_⟩
      · rw [inn _ (by omega) (by omega)]; exact k3
      · rw [inn _ (by omega) (by omega)]; exact k4
theorem lqr_known : Known Try.prog 6 lqrC := by
  refine known1 (nt := 141) (An := fun (l, y) => (lqr_an l y)) (labs := []) (lit := false) (em := em_lqr) sh_lqr_le (by kernel_rfl) mixedT tyT_ok (.cons qgoes_known (.cons qreach_known (.cons qwrong_known (.cons qfalls_known (.cons qat_known .nil))))) Try.func6 (by kernel_rfl) (fun a => by obtain ⟨l, y⟩ := a; kernel_rfl) (fun a => by obtain ⟨l, y⟩ := a; rfl) (fun a ha => ?_)
  obtain ⟨l, y⟩ := a
  replace ha : wfL [.int .i64, .int .i64, .int .i64] l ∧ in64 y := ha.out
  refine ⟨_, vc_lqr l y, ?_⟩
  have hl := tri_len l
  simp only [iA_cell, iSV_len, cell0, cell1, cell2, tri_lnSV, lnSV_len, tri_take]
  simp only [Int.reduceLE, Int.reduceLT, Int.reduceEq, Int.reduceNe, Nat.reduceLeDiff, Nat.reduceEqDiff, beq_eq_false_iff_ne, beq_iff_eq, decide_eq_decide, ne_eq, eq_self, true_and, and_true, and_self, and_false, false_and, Bool.not_true, Bool.not_false, Bool.false_eq_true, Bool.true_eq_false, false_implies, true_implies, implies_true, imp_false, not_true, not_false_eq_true, decide_eq_true_eq, decide_eq_false_iff_not, Bool.not_eq_true', Bool.not_eq_false', Bool.and_eq_true, Classical.not_not, decide_true, decide_false, Bool.and_true, Bool.true_and, if_true, if_false, Ob_iff]
  obtain ⟨r1, r2⟩ : (chkT (tri l) ≠ 0 → rchX (tri l) y = 0 ∧ rchC (tri l) y = 0 ∧ rchO (tri l) y = false) ∧ True := ⟨fun h => by
    have e : rchO (tri l) y = false := by unfold rchO; simp [h]
    exact ⟨by unfold rchX; rw [e]; rfl, by unfold rchC; rw [if_neg h], e⟩, trivial⟩
  refine fun h60 => ⟨fun h => ⟨fun _ => ⟨fun _ => (r1 h).2.2, (r1 h).2.1⟩, (r1 h).1⟩, fun h => ⟨⟨0, rfl, rfl, by omega, by omega, h⟩, fun i ⟨i1, _⟩ => ⟨fun h2 => ?_, fun h2 => ?_⟩⟩⟩
  · have hs := chk_ok.1 h
    have hg := std_good hs
    have hgt := fun k => good_take hg k
    have hf := std_frame hs
    have h256 := hs.2.1
    obtain ⟨p1, p2, p3, p4, p5, p6⟩ := hs.2.2 i (by omega)
    obtain ⟨g1, g2, g3⟩ := frame_from hf (i := i) (by omega)
    have hw : IntKind.i64.wrap ((i : Int) + 1) = ((i + 1 : Nat) : Int) := by rw [wrapI (by omega)]; omega
    have hw3 : IntKind.i64.wrap ((lnA (tri l) i).1 - 1) = (lnA (tri l) i).1 - 1 := wrapI (by omega)
    simp only [hw, hw3, Int.toNat_natCast]
    have oe : orN (flsB (tri l)) (i + 1) = (orN (flsB (tri l)) i || flsB (tri l) i) := rfl
    have nxT : (orN (flsB (tri l)) i = true ∨ flsB (tri l) i = true) → ∃ x : Nat, orN (flsB (tri l)) x = true ∧ ((i + 1 : Nat) : Int) = (x : Int) ∧ (x ≤ l.length ∧ l.length ≤ 60 ∧ chkT (tri l) = 0) ∧ l.length - x < l.length - i := fun hv =>
      ⟨i + 1, by rw [oe]; rcases hv with hv | hv <;> simp [hv], rfl, ⟨by omega, by omega, h⟩, by omega⟩
    have nxF : orN (flsB (tri l)) i = false → flsB (tri l) i = false → ∃ x : Nat, orN (flsB (tri l)) x = false ∧ ((i + 1 : Nat) : Int) = (x : Int) ∧ (x ≤ l.length ∧ l.length ≤ 60 ∧ chkT (tri l) = 0) ∧ l.length - x < l.length - i := fun hv hv2 =>
      ⟨i + 1, by rw [oe, hv, hv2]; rfl, rfl, ⟨by omega, by omega, h⟩, by omega⟩
    have nxD : orN (flsB (tri l)) i = false → ∀ d, d = flsB (tri l) i → ∃ x : Nat, d = orN (flsB (tri l)) x ∧ ((i + 1 : Nat) : Int) = (x : Int) ∧ (x ≤ l.length ∧ l.length ≤ 60 ∧ chkT (tri l) = 0) ∧ l.length - x < l.length - i := fun hv d hd =>
      ⟨i + 1, by rw [oe, hv, hd]; rfl, rfl, ⟨by omega, by omega, h⟩, by omega⟩
    have fT : (lnA (tri l) i).2.2 < 0 → (lnA (tri l) i).1 < endT (tri l) i → flsB (tri l) i = true := fun a b => by unfold flsB; simp [a, b]
    have fN : ¬ ((lnA (tri l) i).2.2 < 0 ∧ (lnA (tri l) i).1 < endT (tri l) i) → (decide ((lnA (tri l) i).2.2 < 0) && decide ((lnA (tri l) i).1 < endT (tri l) i)) = false := fun a => by
      rw [← Bool.decide_and]; exact decide_eq_false a
    have fD : ¬ ((lnA (tri l) i).2.2 < 0 ∧ (lnA (tri l) i).1 < endT (tri l) i) → 0 < i → decide ((lnA (tri l) i).2.1 < atN ((lnA (tri l) i).1 - 1) ((tri l).take i) 0) = flsB (tri l) i := fun a b => by
      have := p3 b
      unfold flsB
      rw [fN a, atN_take (by omega) (by omega) (by omega)]
      simp [b]
    have fF : ¬ ((lnA (tri l) i).2.2 < 0 ∧ (lnA (tri l) i).1 < endT (tri l) i) → ¬ 0 < i → flsB (tri l) i = false := fun a b => by
      unfold flsB
      rw [fN a]
      simp [b]
    have p3' : 0 < i → 0 < (lnA (tri l) i).1 := fun hp => by have := p3 hp; have := (frame_from hf (i := i - 1) (by omega)).1; omega
    have e1 : ((i + 1 : Nat) : Int) < (l.length : Int) → IntKind.i64.wrap ((lnA (tri l) (i + 1)).1 - 1) = endT (tri l) i := fun h3 => by
      have := (frame_from hf (i := i + 1) (by omega))
      rw [wrapI (by omega)]
      unfold endT
      rw [if_pos (by omega)]
    have e2 : ¬ ((i + 1 : Nat) : Int) < (l.length : Int) → endT (tri l) i = 10000000000 := fun h3 => by
      unfold endT
      rw [if_neg (by omega)]
    refine ⟨by omega, fun h3 => ?_, fun h3 => ?_⟩
    · rw [e1 h3]
      repeat' first | exact trivial | exact hg | exact hgt _ | apply And.intro | intro _
      all_goals first
        | omega
        | (rw [List.length_take]; omega)
        | exact nxT (.inl (by assumption))
        | exact nxT (.inr (fT (by assumption) (by assumption)))
        | exact nxD (by assumption) _ (fD (by omega) (by omega))
        | exact nxF (by assumption) (fF (by omega) (by omega))
    · have e2 := e2 h3
      repeat' first | exact trivial | exact hg | exact hgt _ | apply And.intro | intro _
      all_goals first
        | omega
        | (rw [List.length_take]; omega)
        | exact nxT (.inl (by assumption))
        | exact nxT (.inr (fT (by assumption) (by omega)))
        | exact nxD (by assumption) _ (fD (by omega) (by omega))
        | exact nxF (by assumption) (fF (by omega) (by omega))
  · have hs := chk_ok.1 h
    have hg := std_good hs
    have e : i = l.length := by omega
    have ef : flsT (tri l) = orN (flsB (tri l)) i := by rw [orN_fs, e, ← hl]; rfl
    obtain ⟨q1, q2⟩ := rch_all hs y
    refine ⟨h, ef, fun _ _ _ _ => ⟨fun h5 => ?_, fun h5 => ?_⟩⟩
    · obtain ⟨a1, a2, a3⟩ := q1 h5
      exact ⟨fun _ => ⟨fun _ => ⟨⟨by omega, hg⟩, a3⟩, by rw [a2, hl]⟩, a1⟩
    · obtain ⟨a1, a2, a3, a4, a5⟩ := q2 h5
      rw [hl] at a2
      rw [wrapI (n := rchX (tri l) y - 1) (by omega)]
      exact ⟨fun _ => ⟨fun _ => ⟨⟨by omega, hg, by omega, by omega⟩, fun _ h6 => ⟨⟨by omega, hg, by omega, by omega⟩, a5 h6⟩, a4⟩, a2⟩, a1⟩

/-- A function with a corner. -/
theorem corn_rep {c r : Int} (h1 : -10000000000 ≤ c) (h2 : c ≤ 10000000000) (h3 : 0 ≤ r) : Rep (cornT c r) (fun x => max 0 (x - c) * r) := by
  unfold cornT
  by_cases hr : 10000000000 < c ∨ r = 0
  · rw [if_pos hr]
    have hr : r = 0 := by omega
    subst hr
    refine ⟨⟨by simp, rfl, fun i hi => by simp at hi, fun i hi => ?_⟩, fun x h0 h4 => ?_⟩
    · simp at hi; subst hi; decide
    · simp only [atN, atT, if_pos h0, Int.mul_zero, Int.add_zero]
  · rw [if_neg hr]
    by_cases hc : c ≤ 0
    · rw [if_pos hc]
      refine ⟨⟨by simp, rfl, fun i hi => by simp at hi, fun i hi => ?_⟩, fun x h0 h4 => ?_⟩
      · simp at hi; subst hi; show (0 : Int) ≤ 10000000000; decide
      · simp only [atN, atT, if_pos h0]
        rw [← Int.add_mul, Int.max_eq_right (by omega)]
        congr 1
        omega
    · rw [if_neg hc]
      refine ⟨⟨by simp, rfl, fun i hi => ?_, fun i hi => ?_⟩, fun x h0 h4 => ?_⟩
      · have : i = 0 := by simp at hi; omega
        subst this
        show (0 : Int) < c
        omega
      · rcases (show i = 0 ∨ i = 1 by simp at hi; omega) with rfl | rfl
        · show (0 : Int) ≤ 10000000000; decide
        · exact h2
      · simp only [atN, atT, if_pos h0]
        split
        · rw [Int.max_eq_right (by omega)]; omega
        · rw [Int.max_eq_left (by omega)]; omega
theorem corn_rate {c r : Int} (h3 : 0 ≤ r) (h4 : r ≤ 10000) {a : Ln} (h : a ∈ cornT c r) : -40000 ≤ a.2.2 ∧ a.2.2 ≤ 40000 := by
  unfold cornT at h
  split at h
  · rw [List.mem_singleton] at h; subst h; decide
  · split at h
    · rw [List.mem_singleton] at h; subst h; show -40000 ≤ r ∧ r ≤ 40000; omega
    · rw [List.mem_cons, List.mem_singleton] at h
      rcases h with rfl | rfl
      · decide
      · show -40000 ≤ r ∧ r ≤ 40000; omega
theorem corn_len (c r : Int) : (cornT c r).length ≤ 2 := by
  unfold cornT
  split
  · simp
  · split <;> simp
theorem corn_std {c r : Int} (h1 : -10000000000 ≤ c) (h2 : c ≤ 10000000000) (h3 : 0 ≤ r) (h4 : r ≤ 10000) : stdT (cornT c r) :=
  rep_std (corn_rep h1 h2 h3) (by have := corn_len c r; omega) (fun a ha => corn_rate h3 h4 ha) (fun x h5 h6 => by
    have := mul_in (a := max 0 (x - c)) (b := r) (A := 20000000000) (B := 10000) (by omega) (by omega) (by omega) (by omega)
    show _ ≤ max 0 (x - c) * r ∧ max 0 (x - c) * r ≤ _
    omega)
theorem flat_std (v : Int) (h : -4000000000000000 ≤ v ∧ v ≤ 4000000000000000) : stdT [(0, v, 0)] ∧ ∀ x, vAt [(0, v, 0)] x = v := by
  refine ⟨⟨by simp, by simp, fun i hi => ?_⟩, fun x => ?_⟩
  · have : i = 0 := by simp at hi; omega
    subst this
    refine ⟨⟨Int.le_refl _, by show (0 : Int) ≤ 10000000000; decide⟩, fun _ => rfl, fun h => absurd h (Nat.lt_irrefl _), ⟨by show (-40000 : Int) ≤ 0; decide, by show (0 : Int) ≤ 40000; decide⟩, h, ?_⟩
    show _ ≤ atT (0, v, 0) _ ∧ atT (0, v, 0) _ ≤ _
    unfold atT
    rw [Int.mul_zero, Int.add_zero]
    exact h
  · have : lnA [(0, v, 0)] (fndT [(0, v, 0)] x) = (0, v, 0) := by
      have : fndT [(0, v, 0)] x = 0 := by
        have := cnt_le [(0, v, 0)] x
        have h2 : ([(0, v, 0)] : List Ln).length = 1 := rfl
        unfold fndT thereB
        split
        · rename_i h3; simp at h3; omega
        · omega
      rw [this]; rfl
    unfold vAt
    rw [this]
    unfold atT
    rw [Int.mul_zero, Int.add_zero]
/-- The lesser one of a corner and a constant has three pieces at most. -/
theorem corn_least {c r v : Int} (h1 : -10000000000 ≤ c) (h2 : c ≤ 10000000000) (h3 : 0 ≤ r) (h4 : r ≤ 10000) (hv : 0 ≤ v) : (jnT (lstT (cornT c r) [(0, v, 0)])).length ≤ 3 := by
  have hj : (jnT (lstT (cornT c r) [(0, v, 0)])).length ≤ (lstT (cornT c r) [(0, v, 0)]).length := jnN_len _ _
  refine Nat.le_trans hj ?_
  have hs := corn_std h1 h2 h3 h4
  have one : ∀ a : Ln, a.1 = 0 → (lstT [a] [(0, v, 0)]).length ≤ 3 := fun a ha => by
    have e : fromsT [a] [(0, v, 0)] = [0] := by
      unfold fromsT
      simp [sortZ, insZ, cmpZ, ha]
    unfold lstT
    rw [e]
    show (lstN _ _ [0] 1).length ≤ 3
    have := lstN_len [a] [(0, v, 0)] [0] 1
    omega
  unfold cornT at hs ⊢
  split
  · exact one _ rfl
  · split
    · exact one _ rfl
    · rename_i g1 g2
      rw [if_neg g1, if_neg g2] at hs
      have e : fromsT [(0, 0, 0), (c, 0, r)] [(0, v, 0)] = [0, c] := by
        have g3 : ¬ c ≤ 0 := g2
        have g4 : ¬ (0 : Int) = c := by omega
        unfold fromsT
        simp [sortZ, insZ, cmpZ, g3, g4, show (0 : Int) ≤ c by omega]
      unfold lstT
      rw [e]
      show (lstN _ _ [0, c] 2).length ≤ 3
      rw [lstN, lstN, lstN, List.nil_append, List.length_append]
      have l2 : (lesP [(0, 0, 0), (c, 0, r)] [(0, v, 0)] [0, c] 1).length ≤ 2 := les_len _ _ _ _
      have l1 : (lesP [(0, 0, 0), (c, 0, r)] [(0, v, 0)] [0, c] 0).length = 1 := by
        have f1 : fndT [(0, 0, 0), (c, 0, r)] 0 = 0 := fnd_eq (stdT_rises hs) (Int.le_refl _) (by simp) (Int.le_refl _) (fun _ => by show (0 : Int) < c; omega)
        have f2 : fndT [(0, v, 0)] 0 = 0 := fnd_eq (fun i hi => by simp at hi) (Int.le_refl _) (by simp) (Int.le_refl _) (fun hi => by simp at hi)
        unfold lesP
        rw [show iA [0, c] 0 = 0 from rfl, f1, f2]
        show (lesT (0, 0, 0) (0, v, 0) 0 _).length = 1
        unfold lesT
        have a1 : atT (0, 0, 0) 0 = 0 := rfl
        have a2 : atT (0, v, 0) 0 = v := by unfold atT; simp
        rw [a1, a2, if_neg (by
          rintro (h | ⟨_, h⟩)
          · omega
          · exact absurd h (Int.lt_irrefl 0))]
        unfold lesS crossB
        simp
      omega
theorem lqco_known : Known Try.prog 7 lqcoC := by
  refine known1 (nt := 94) (An := fun (c, r, x) => noAnn) (labs := []) (lit := false) (em := em_lqco) sh_lqco_le (by kernel_rfl) mixedT tyT_ok (.cons qgoes_known (.cons corner_known (.cons straight_known (.cons pat_known (.cons least_known .nil))))) Try.func7 (by kernel_rfl) (fun a => by obtain ⟨c, r, x⟩ := a; kernel_rfl) (fun a => by obtain ⟨c, r, x⟩ := a; rfl) (fun a ha => ?_)
  obtain ⟨c, r, x⟩ := a
  replace ha : in64 c ∧ in64 r ∧ in64 x := ha.out
  refine ⟨_, vc_lqco c r x, ?_⟩
  simp only [tri_lnSV, lnSV_len]
  rw [show tri [SV.agg [SV.int IntKind.i64 0, SV.int IntKind.i64 5000, SV.int IntKind.i64 0]] = [(0, 5000, 0)] from rfl]
  simp only [Int.reduceLE, Int.reduceLT, Int.reduceEq, Int.reduceNe, Nat.reduceLeDiff, Nat.reduceEqDiff, beq_eq_false_iff_ne, beq_iff_eq, decide_eq_decide, ne_eq, eq_self, true_and, and_true, and_self, and_false, false_and, Bool.not_true, Bool.not_false, Bool.false_eq_true, Bool.true_eq_false, false_implies, true_implies, implies_true, imp_false, not_true, not_false_eq_true, decide_eq_true_eq, decide_eq_false_iff_not, Bool.not_eq_true', Bool.not_eq_false', Bool.and_eq_true, Classical.not_not, decide_true, decide_false, Bool.and_true, Bool.true_and, if_true, if_false, Ob_iff]
  intro h1 h2 h3 h4 h5 h6
  have hs := corn_std (c := c) (r := r) (by omega) (by omega) (by omega) (by omega)
  have hr := corn_rep (c := c) (r := r) (by omega) (by omega) (by omega)
  obtain ⟨fs, fv⟩ := flat_std 5000 (by omega)
  obtain ⟨p1, p2, p3⟩ := (lqc_facts (cornT c r) x).2.2 (chk_ok.2 hs) (by omega) (by omega)
  have hv : vAt (cornT c r) x = max 0 (x - c) * r := rep_v hr (by omega) (by omega)
  have hm := mul_in (a := max 0 (x - c)) (b := r) (A := 20000000000) (B := 10000) (by omega) (by omega) (by omega) (by omega)
  have em : maxV 0 (x - c) = max 0 (x - c) := by unfold maxV; split <;> omega
  have eW : pAtV (cornT c r) x = IntKind.i64.wrap (maxV 0 (IntKind.i64.wrap (x - c)) * r) := by
    rw [p3, hv, wrapI (n := x - c) (by omega), em, wrapI (by omega)]
  obtain ⟨l1, l2⟩ := least_all hs fs
  have hl3 := corn_least (c := c) (r := r) (v := 5000) (by omega) (by omega) (by omega) (by omega) (by omega)
  have hbe : bothE (cornT c r) [(0, 5000, 0)] = 0 := by unfold bothE; rw [if_pos (chk_ok.2 hs)]; exact chk_ok.2 fs
  have ee : lstE (cornT c r) [(0, 5000, 0)] = chkT (jnT (lstT (cornT c r) [(0, 5000, 0)])) := by unfold lstE; rw [if_pos hbe]; rfl
  have hE : lstE (cornT c r) [(0, 5000, 0)] = 0 := by
    rcases l1 with h | h
    · exact h
    · rw [ee]
      have r1 := (jn_rep (lst_rep hs fs)).1
      rcases frame_err r1.1 with h' | ⟨h', _⟩ | ⟨_, _, h'⟩ | ⟨_, h'⟩
      · exact h'
      · omega
      · rw [← ee] at h'; omega
      · rw [← ee] at h'; omega
  obtain ⟨ls, lv⟩ := l2 hE
  have eV : lstV (cornT c r) [(0, 5000, 0)] = jnT (lstT (cornT c r) [(0, 5000, 0)]) := by unfold lstV; rw [if_pos hE]
  obtain ⟨q1, q2, q3⟩ := (lqc_facts (lstV (cornT c r) [(0, 5000, 0)]) x).2.2 (chk_ok.2 ls) (by omega) (by omega)
  have eq : pAtV (lstV (cornT c r) [(0, 5000, 0)]) x = minV (pAtV (cornT c r) x) 5000 := by
    rw [q3, lv x (by omega) (by omega), fv, p3]; unfold minV; split <;> omega
  have hlen : ((lstV (cornT c r) [(0, 5000, 0)]).length : Int) ≤ 3 := by rw [eV]; omega
  exact ⟨⟨by omega, by omega, by omega⟩, fun h => absurd p1 h, fun _ => ⟨fun h => absurd eW h, fun _ => ⟨fun _ => ⟨fun _ => ⟨fun _ => hlen, eq⟩, q1⟩, hE⟩⟩⟩

end Go.Rx
