/- Functions of straight pieces: which there may be; the piece in which a number is, and the value there. -/
import Derived.Test.YtibdbmalmmokmaaSrt
import Derived.Test.YtibdbmalmmokmaaPc0
namespace Go.Rx
open Go.Proofs
set_option linter.unusedSimpArgs false
set_option linter.unusedVariables false

def cmpT (f x : Int) : Int := if f < x then -1 else if x < f then 1 else 0
def pAtE (L : List Ln) (x : Int) : Int := if chkT L = 0 then (if x < 0 ∨ 10000000000 < x then 1 else 0) else chkT L
def pAtV (L : List Ln) (x : Int) : Int := if pAtE L x = 0 then vAt L x else 0
def pchk_an (l : List SV) : Nat → Option Ann
  | 0 => some ⟨Nat, fun i => ⟨[(0, .sl lineK l), (15, .sl lineK l), (16, .int .i64 l.length), (17, .int .i64 i)], []⟩, fun i => i ≤ l.length ∧ 1 ≤ l.length ∧ l.length ≤ 256 ∧ eA (tri l) i = 0, fun i => l.length - i, [0, 15, 16, 17], [], [], fun _ _ => none⟩
  | 3 => some ⟨Nat, fun i => ⟨[(0, .sl lineK l), (64, .sl lineK l), (65, .int .i64 l.length), (66, .int .i64 i)], []⟩, fun i => i ≤ l.length ∧ 1 ≤ l.length ∧ l.length ≤ 256 ∧ eA (tri l) l.length = 0 ∧ eB (tri l) i = 0, fun i => l.length - i, [0, 64, 65, 66], [], [], fun _ _ => none⟩
  | _ => none
def bsf_an (l : List SV) (x : Int) (f : Nat) : Nat → Option Ann
  | 0 => some ⟨Nat × Nat × Nat, fun (i, j, _) => ⟨[(0, .sl lineK l), (1, .int .i64 x), (2, .fn f []), (8, .int .i64 l.length), (9, .int .i64 i), (10, .int .i64 j)], []⟩, fun (i, j, d) => i + d = j ∧ j ≤ l.length ∧ l.length ≤ 256 ∧ risesT (tri l) ∧ (∀ k, k < i → (lnA (tri l) k).1 < x) ∧ (j < l.length → x ≤ (lnA (tri l) j).1), fun (_, _, d) => d, [0, 1, 2, 8, 9, 10], [], [], fun _ _ => none⟩
  | _ => none

def sh_lat : List SV → Option (Int × Int × Int × Int)
  | [.agg [.int .i64 f, .int .i64 v, .int .i64 r], .int .i64 x] => some (f, v, r, x)
  | _ => none
def em_lat : Int × Int × Int × Int → List SV := fun (f, v, r, x) => [.agg [.int .i64 f, .int .i64 v, .int .i64 r], .int .i64 x]
theorem sh_lat_le : ∀ us a, sh_lat us = some a → leL us (em_lat a) := by
  intro us a h
  unfold sh_lat at h
  split at h
  · cases h; exact (.cons (.agg (.cons (.refl _) (.cons (.refl _) (.cons (.refl _) .nil)))) (.cons (.refl _) .nil))
  · cases h
def latC : Con := conOf sh_lat (fun (f, v, r, x) => some (Ob (okL (f, v, r) ∧ -1 ≤ x ∧ x ≤ 10000000000))) (fun (f, v, r, x) => .int .i64 (atT (f, v, r) x))
set_option maxRecDepth 100000 in
theorem vc_lat (f : Int) (v : Int) (r : Int) (x : Int) : (wpF ⟨15, tyT, [], false, 0, [], false⟩ (noAnn) [] Try.f26 (em_lat (f, v, r, x)) (.int .i64 (atT (f, v, r) x))) = (((IntKind.i64.wrap (v + IntKind.i64.wrap (IntKind.i64.wrap (x - f) * r)) = atT (f, v, r) x) ∧ (True))) := by kernel_rfl
def sh_bnd : List SV → Option (Int)
  | [.int .i64 x] => some x
  | _ => none
def em_bnd : Int → List SV := fun x => [.int .i64 x]
theorem sh_bnd_le : ∀ us a, sh_bnd us = some a → leL us (em_bnd a) := by
  intro us a h
  unfold sh_bnd at h
  split at h
  · cases h; exact (.cons (.refl _) .nil)
  · cases h
def bndC : Con := conOf sh_bnd (fun _ => none) (fun x => .bool (bndB x))
set_option maxRecDepth 100000 in
theorem vc_bnd (x : Int) : (wpF ⟨9, tyT, [], false, 0, [], false⟩ (noAnn) [] Try.f27 (em_bnd x) (.bool (bndB x))) = ((((decide ((-4000000000000000 : Int) ≤ x) = true) → ((decide (x ≤ (4000000000000000 : Int)) = bndB x) ∧ (True))) ∧ ((decide ((-4000000000000000 : Int) ≤ x) = false) → ((bndB x = false) ∧ (True))))) := by kernel_rfl
def sh_pend : List SV → Option ((List SV) × Int)
  | [l', .int .i64 i] => (match slOf [.int .i64, .int .i64, .int .i64] l' with | some l => some (l, i) | _ => none)
  | _ => none
def em_pend : (List SV) × Int → List SV := fun (l, i) => [.sl [.int .i64, .int .i64, .int .i64] l, .int .i64 i]
theorem sh_pend_le : ∀ us a, sh_pend us = some a → leL us (em_pend a) := by
  intro us a h
  unfold sh_pend at h
  split at h
  · split at h
    · cases h; exact (.cons (.sl (by assumption)) (.cons (.refl _) .nil))
    · cases h
  · cases h
def pendC : Con := conOf sh_pend (fun (l, i) => some (Ob (0 ≤ i ∧ i < l.length ∧ l.length ≤ 256 ∧ eA (tri l) l.length = 0))) (fun (l, i) => .int .i64 (endT (tri l) i.toNat))
set_option maxRecDepth 100000 in
theorem vc_pend (l : List SV) (i : Int) : (wpF ⟨17, tyT, [], false, 0, [], false⟩ (noAnn) [] Try.f28 (em_pend (l, i)) (.int .i64 (endT (tri l) i.toNat))) = ((((decide (IntKind.i64.wrap (i + (1 : Int)) < (↑l.length : Int)) = true) → (Ob ((((0 : Int) ≤ IntKind.i64.wrap (i + (1 : Int))) ∧ (IntKind.i64.wrap (i + (1 : Int)) < (↑l.length : Int)))) ∧ ((IntKind.i64.wrap ((elCell l (IntKind.i64.wrap (i + (1 : Int))).toNat (0 : Nat)).toInt - (1 : Int)) = endT (tri l) i.toNat) ∧ (True)))) ∧ ((decide (IntKind.i64.wrap (i + (1 : Int)) < (↑l.length : Int)) = false) → (((10000000000 : Int) = endT (tri l) i.toNat) ∧ (True))))) := by kernel_rfl
def sh_pchk : List SV → Option (List SV)
  | [l'] => (match slOf [.int .i64, .int .i64, .int .i64] l' with | some l => some l | _ => none)
  | _ => none
def em_pchk : List SV → List SV := fun l => [.sl [.int .i64, .int .i64, .int .i64] l]
theorem sh_pchk_le : ∀ us a, sh_pchk us = some a → leL us (em_pchk a) := by
  intro us a h
  unfold sh_pchk at h
  split at h
  · split at h
    · cases h; exact (.cons (.sl (by assumption)) .nil)
    · cases h
  · cases h
def pchkC : Con := conOf sh_pchk (fun _ => none) (fun l => .int .i64 (chkT (tri l)))
set_option maxRecDepth 100000 in
theorem vc_pchk (l : List SV) : (wpF ⟨85, tyT, [(26, latC), (27, bndC), (28, pendC)], false, 0, [], false⟩ ((pchk_an l)) [] Try.f12 (em_pchk l) (.int .i64 (chkT (tri l)))) = ((((decide ((↑l.length : Int) = (0 : Int)) = true) → (((2 : Int) = chkT (tri l)) ∧ (True))) ∧ ((decide ((↑l.length : Int) = (0 : Int)) = false) → (((decide ((256 : Int) < (↑l.length : Int)) = true) → (((2 : Int) = chkT (tri l)) ∧ (True))) ∧ ((decide ((256 : Int) < (↑l.length : Int)) = false) → ((∃ (x1 : Nat), ((l = l) ∧ ((l = l) ∧ (((↑l.length : Int) = (↑l.length : Int)) ∧ (((0 : Int) = (↑x1 : Int)) ∧ (((x1 ≤ l.length) ∧ (((1 : Nat) ≤ l.length) ∧ ((l.length ≤ (256 : Nat)) ∧ (eA (tri l) x1 = (0 : Int))))) ∧ ((True) ∧ (True)))))))) ∧ (∀ (x2 : Nat), (((x2 ≤ l.length) ∧ (((1 : Nat) ≤ l.length) ∧ ((l.length ≤ (256 : Nat)) ∧ (eA (tri l) x2 = (0 : Int))))) → (((decide ((↑x2 : Int) < (↑l.length : Int)) = true) → (Ob ((((0 : Int) ≤ (↑x2 : Int)) ∧ ((↑x2 : Int) < (↑l.length : Int)))) ∧ (((decide ((elCell l x2 (0 : Nat)).toInt < (0 : Int)) = true) → (((1 : Int) = chkT (tri l)) ∧ (True))) ∧ ((decide ((elCell l x2 (0 : Nat)).toInt < (0 : Int)) = false) → (((decide ((10000000000 : Int) < (elCell l x2 (0 : Nat)).toInt) = true) → (((1 : Int) = chkT (tri l)) ∧ (True))) ∧ ((decide ((10000000000 : Int) < (elCell l x2 (0 : Nat)).toInt) = false) → (((decide ((↑x2 : Int) = (0 : Int)) = true) → ((((!decide ((elCell l x2 (0 : Nat)).toInt = (0 : Int))) = true) → (((1 : Int) = chkT (tri l)) ∧ (True))) ∧ (((!decide ((elCell l x2 (0 : Nat)).toInt = (0 : Int))) = false) → (((decide ((0 : Int) < (↑x2 : Int)) = true) → (Ob ((((0 : Int) ≤ IntKind.i64.wrap ((↑x2 : Int) - (1 : Int))) ∧ (IntKind.i64.wrap ((↑x2 : Int) - (1 : Int)) < (↑l.length : Int)))) ∧ (((decide ((elCell l x2 (0 : Nat)).toInt ≤ (elCell l (IntKind.i64.wrap ((↑x2 : Int) - (1 : Int))).toNat (0 : Nat)).toInt) = true) → (((6 : Int) = chkT (tri l)) ∧ (True))) ∧ ((decide ((elCell l x2 (0 : Nat)).toInt ≤ (elCell l (IntKind.i64.wrap ((↑x2 : Int) - (1 : Int))).toNat (0 : Nat)).toInt) = false) → (((decide ((40000 : Int) < (elCell l x2 (2 : Nat)).toInt) = true) → (((50 : Int) = chkT (tri l)) ∧ (True))) ∧ ((decide ((40000 : Int) < (elCell l x2 (2 : Nat)).toInt) = false) → (((decide ((elCell l x2 (2 : Nat)).toInt < (-40000 : Int)) = true) → (((50 : Int) = chkT (tri l)) ∧ (True))) ∧ ((decide ((elCell l x2 (2 : Nat)).toInt < (-40000 : Int)) = false) → (∃ (x3 : Nat), ((l = l) ∧ ((l = l) ∧ (((↑l.length : Int) = (↑l.length : Int)) ∧ ((IntKind.i64.wrap ((↑x2 : Int) + (1 : Int)) = (↑x3 : Int)) ∧ (((x3 ≤ l.length) ∧ (((1 : Nat) ≤ l.length) ∧ ((l.length ≤ (256 : Nat)) ∧ (eA (tri l) x3 = (0 : Int))))) ∧ ((l.length - x3 < l.length - x2) ∧ (True)))))))))))))))) ∧ ((decide ((0 : Int) < (↑x2 : Int)) = false) → (((decide ((40000 : Int) < (elCell l x2 (2 : Nat)).toInt) = true) → (((50 : Int) = chkT (tri l)) ∧ (True))) ∧ ((decide ((40000 : Int) < (elCell l x2 (2 : Nat)).toInt) = false) → (((decide ((elCell l x2 (2 : Nat)).toInt < (-40000 : Int)) = true) → (((50 : Int) = chkT (tri l)) ∧ (True))) ∧ ((decide ((elCell l x2 (2 : Nat)).toInt < (-40000 : Int)) = false) → (∃ (x4 : Nat), ((l = l) ∧ ((l = l) ∧ (((↑l.length : Int) = (↑l.length : Int)) ∧ ((IntKind.i64.wrap ((↑x2 : Int) + (1 : Int)) = (↑x4 : Int)) ∧ (((x4 ≤ l.length) ∧ (((1 : Nat) ≤ l.length) ∧ ((l.length ≤ (256 : Nat)) ∧ (eA (tri l) x4 = (0 : Int))))) ∧ ((l.length - x4 < l.length - x2) ∧ (True))))))))))))))))) ∧ ((decide ((↑x2 : Int) = (0 : Int)) = false) → (((decide ((0 : Int) < (↑x2 : Int)) = true) → (Ob ((((0 : Int) ≤ IntKind.i64.wrap ((↑x2 : Int) - (1 : Int))) ∧ (IntKind.i64.wrap ((↑x2 : Int) - (1 : Int)) < (↑l.length : Int)))) ∧ (((decide ((elCell l x2 (0 : Nat)).toInt ≤ (elCell l (IntKind.i64.wrap ((↑x2 : Int) - (1 : Int))).toNat (0 : Nat)).toInt) = true) → (((6 : Int) = chkT (tri l)) ∧ (True))) ∧ ((decide ((elCell l x2 (0 : Nat)).toInt ≤ (elCell l (IntKind.i64.wrap ((↑x2 : Int) - (1 : Int))).toNat (0 : Nat)).toInt) = false) → (((decide ((40000 : Int) < (elCell l x2 (2 : Nat)).toInt) = true) → (((50 : Int) = chkT (tri l)) ∧ (True))) ∧ ((decide ((40000 : Int) < (elCell l x2 (2 : Nat)).toInt) = false) → (((decide ((elCell l x2 (2 : Nat)).toInt < (-40000 : Int)) = true) → (((50 : Int) = chkT (tri l)) ∧ (True))) ∧ ((decide ((elCell l x2 (2 : Nat)).toInt < (-40000 : Int)) = false) → (∃ (x5 : Nat), ((l = l) ∧ ((l = l) ∧ (((↑l.length : Int) = (↑l.length : Int)) ∧ ((IntKind.i64.wrap ((↑x2 : Int) + (1 : Int)) = (↑x5 : Int)) ∧ (((x5 ≤ l.length) ∧ (((1 : Nat) ≤ l.length) ∧ ((l.length ≤ (256 : Nat)) ∧ (eA (tri l) x5 = (0 : Int))))) ∧ ((l.length - x5 < l.length - x2) ∧ (True)))))))))))))))) ∧ ((decide ((0 : Int) < (↑x2 : Int)) = false) → (((decide ((40000 : Int) < (elCell l x2 (2 : Nat)).toInt) = true) → (((50 : Int) = chkT (tri l)) ∧ (True))) ∧ ((decide ((40000 : Int) < (elCell l x2 (2 : Nat)).toInt) = false) → (((decide ((elCell l x2 (2 : Nat)).toInt < (-40000 : Int)) = true) → (((50 : Int) = chkT (tri l)) ∧ (True))) ∧ ((decide ((elCell l x2 (2 : Nat)).toInt < (-40000 : Int)) = false) → (∃ (x6 : Nat), ((l = l) ∧ ((l = l) ∧ (((↑l.length : Int) = (↑l.length : Int)) ∧ ((IntKind.i64.wrap ((↑x2 : Int) + (1 : Int)) = (↑x6 : Int)) ∧ (((x6 ≤ l.length) ∧ (((1 : Nat) ≤ l.length) ∧ ((l.length ≤ (256 : Nat)) ∧ (eA (tri l) x6 = (0 : Int))))) ∧ ((l.length - x6 < l.length - x2) ∧ (True)))))))))))))))))))))) ∧ ((decide ((↑x2 : Int) < (↑l.length : Int)) = false) → ((∃ (x7 : Nat), ((l = l) ∧ ((l = l) ∧ (((↑l.length : Int) = (↑l.length : Int)) ∧ (((0 : Int) = (↑x7 : Int)) ∧ (((x7 ≤ l.length) ∧ (((1 : Nat) ≤ l.length) ∧ ((l.length ≤ (256 : Nat)) ∧ ((eA (tri l) l.length = (0 : Int)) ∧ (eB (tri l) x7 = (0 : Int)))))) ∧ ((True) ∧ (True)))))))) ∧ (∀ (x8 : Nat), (((x8 ≤ l.length) ∧ (((1 : Nat) ≤ l.length) ∧ ((l.length ≤ (256 : Nat)) ∧ ((eA (tri l) l.length = (0 : Int)) ∧ (eB (tri l) x8 = (0 : Int)))))) → (((decide ((↑x8 : Int) < (↑l.length : Int)) = true) → (Ob ((((0 : Int) ≤ (↑x8 : Int)) ∧ ((↑x8 : Int) < (↑l.length : Int)))) ∧ ((((!bndB (elCell l x8 (1 : Nat)).toInt) = true) → (((10 : Int) = chkT (tri l)) ∧ (True))) ∧ (((!bndB (elCell l x8 (1 : Nat)).toInt) = false) → (Ob ((((0 : Int) ≤ (↑x8 : Int)) ∧ (((↑x8 : Int) < (↑l.length : Int)) ∧ ((l.length ≤ (256 : Nat)) ∧ (eA (tri l) l.length = (0 : Int)))))) ∧ (Ob (((okL ((elCell l x8 (0 : Nat)).toInt, (elCell l x8 (1 : Nat)).toInt, (elCell l x8 (2 : Nat)).toInt)) ∧ (((-1 : Int) ≤ endT (tri l) x8) ∧ (endT (tri l) x8 ≤ (10000000000 : Int))))) ∧ ((((!bndB (atT ((elCell l x8 (0 : Nat)).toInt, (elCell l x8 (1 : Nat)).toInt, (elCell l x8 (2 : Nat)).toInt) (endT (tri l) x8))) = true) → (((10 : Int) = chkT (tri l)) ∧ (True))) ∧ (((!bndB (atT ((elCell l x8 (0 : Nat)).toInt, (elCell l x8 (1 : Nat)).toInt, (elCell l x8 (2 : Nat)).toInt) (endT (tri l) x8))) = false) → (∃ (x9 : Nat), ((l = l) ∧ ((l = l) ∧ (((↑l.length : Int) = (↑l.length : Int)) ∧ ((IntKind.i64.wrap ((↑x8 : Int) + (1 : Int)) = (↑x9 : Int)) ∧ (((x9 ≤ l.length) ∧ (((1 : Nat) ≤ l.length) ∧ ((l.length ≤ (256 : Nat)) ∧ ((eA (tri l) l.length = (0 : Int)) ∧ (eB (tri l) x9 = (0 : Int)))))) ∧ ((l.length - x9 < l.length - x8) ∧ (True)))))))))))))))) ∧ ((decide ((↑x8 : Int) < (↑l.length : Int)) = false) → (((0 : Int) = chkT (tri l)) ∧ (True))))))))))))))))) := by kernel_rfl
def sh_fcmp : List SV → Option (Int × Int × Int × Int)
  | [.agg [.int .i64 f, .int .i64 v, .int .i64 r], .int .i64 x] => some (f, v, r, x)
  | _ => none
def em_fcmp : Int × Int × Int × Int → List SV := fun (f, v, r, x) => [.agg [.int .i64 f, .int .i64 v, .int .i64 r], .int .i64 x]
theorem sh_fcmp_le : ∀ us a, sh_fcmp us = some a → leL us (em_fcmp a) := by
  intro us a h
  unfold sh_fcmp at h
  split at h
  · cases h; exact (.cons (.agg (.cons (.refl _) (.cons (.refl _) (.cons (.refl _) .nil)))) (.cons (.refl _) .nil))
  · cases h
def fcmpC : Con := conOf sh_fcmp (fun _ => none) (fun (f, v, r, x) => .int .i64 (cmpT f x))
set_option maxRecDepth 100000 in
theorem vc_fcmp (f : Int) (v : Int) (r : Int) (x : Int) : (wpF ⟨15, tyT, [], false, 0, [], false⟩ (noAnn) [] Try.f35 (em_fcmp (f, v, r, x)) (.int .i64 (cmpT f x))) = ((((decide (f < x) = true) → (((-1 : Int) = cmpT f x) ∧ (True))) ∧ ((decide (f < x) = false) → (((decide (x < f) = true) → (((1 : Int) = cmpT f x) ∧ (True))) ∧ ((decide (x < f) = false) → (((0 : Int) = cmpT f x) ∧ (True))))))) := by kernel_rfl
def sh_bsf : List SV → Option ((List SV) × Int)
  | [l', .int .i64 x, .fn 35 []] => (match slOf [.int .i64, .int .i64, .int .i64] l' with | some l => some (l, x) | _ => none)
  | _ => none
def em_bsf : (List SV) × Int → List SV := fun (l, x) => [.sl [.int .i64, .int .i64, .int .i64] l, .int .i64 x, .fn 35 []]
theorem sh_bsf_le : ∀ us a, sh_bsf us = some a → leL us (em_bsf a) := by
  intro us a h
  unfold sh_bsf at h
  split at h
  · split at h
    · cases h; exact (.cons (.sl (by assumption)) (.cons (.refl _) (.cons (.refl _) .nil)))
    · cases h
  · cases h
def bsfC : Con := conOf sh_bsf (fun (l, x) => some (Ob (chkT (tri l) = 0))) (fun (l, x) => .tup [.int .i64 (cntLt (tri l) x), .bool (thereB (tri l) x)])
set_option maxRecDepth 100000 in
theorem vc_bsf (l : List SV) (x : Int) : (wpF ⟨49, tyT, [(35, fcmpC)], false, 0, [], false⟩ ((bsf_an l x 35)) [] Try.f34 (em_bsf (l, x)) (.tup [.int .i64 (cntLt (tri l) x), .bool (thereB (tri l) x)])) = (((∃ (x1 : Nat × Nat × Nat), ((l = l) ∧ ((x = x) ∧ ((SV.fn (35 : Nat) [] = SV.fn (35 : Nat) []) ∧ (((↑l.length : Int) = (↑l.length : Int)) ∧ (((0 : Int) = (↑x1.1 : Int)) ∧ (((↑l.length : Int) = (↑x1.2.1 : Int)) ∧ (((x1.1 + x1.2.2 = x1.2.1) ∧ ((x1.2.1 ≤ l.length) ∧ ((l.length ≤ (256 : Nat)) ∧ ((risesT (tri l)) ∧ ((∀ (k2 : Nat), ((k2 < x1.1) → ((lnA (tri l) k2).fst < x))) ∧ ((x1.2.1 < l.length) → (x ≤ (lnA (tri l) x1.2.1).fst))))))) ∧ ((True) ∧ (True)))))))))) ∧ (∀ (x3 : Nat × Nat × Nat), (((x3.1 + x3.2.2 = x3.2.1) ∧ ((x3.2.1 ≤ l.length) ∧ ((l.length ≤ (256 : Nat)) ∧ ((risesT (tri l)) ∧ ((∀ (k4 : Nat), ((k4 < x3.1) → ((lnA (tri l) k4).fst < x))) ∧ ((x3.2.1 < l.length) → (x ≤ (lnA (tri l) x3.2.1).fst))))))) → (((decide ((↑x3.1 : Int) < (↑x3.2.1 : Int)) = true) → (Ob (((0 : Int) ≤ (1 : Int))) ∧ (Ob ((((0 : Int) ≤ IntKind.i64.wrap (shrV IntKind.u64 (IntKind.u64.wrap (IntKind.i64.wrap ((↑x3.1 : Int) + (↑x3.2.1 : Int)))) (1 : Int))) ∧ (IntKind.i64.wrap (shrV IntKind.u64 (IntKind.u64.wrap (IntKind.i64.wrap ((↑x3.1 : Int) + (↑x3.2.1 : Int)))) (1 : Int)) < (↑l.length : Int)))) ∧ (((decide (cmpT (elCell l (IntKind.i64.wrap (shrV IntKind.u64 (IntKind.u64.wrap (IntKind.i64.wrap ((↑x3.1 : Int) + (↑x3.2.1 : Int)))) (1 : Int))).toNat (0 : Nat)).toInt x < (0 : Int)) = true) → (∃ (x5 : Nat × Nat × Nat), ((l = l) ∧ ((x = x) ∧ ((SV.fn (35 : Nat) [] = SV.fn (35 : Nat) []) ∧ (((↑l.length : Int) = (↑l.length : Int)) ∧ ((IntKind.i64.wrap (IntKind.i64.wrap (shrV IntKind.u64 (IntKind.u64.wrap (IntKind.i64.wrap ((↑x3.1 : Int) + (↑x3.2.1 : Int)))) (1 : Int)) + (1 : Int)) = (↑x5.1 : Int)) ∧ (((↑x3.2.1 : Int) = (↑x5.2.1 : Int)) ∧ (((x5.1 + x5.2.2 = x5.2.1) ∧ ((x5.2.1 ≤ l.length) ∧ ((l.length ≤ (256 : Nat)) ∧ ((risesT (tri l)) ∧ ((∀ (k6 : Nat), ((k6 < x5.1) → ((lnA (tri l) k6).fst < x))) ∧ ((x5.2.1 < l.length) → (x ≤ (lnA (tri l) x5.2.1).fst))))))) ∧ ((x5.2.2 < x3.2.2) ∧ (True))))))))))) ∧ ((decide (cmpT (elCell l (IntKind.i64.wrap (shrV IntKind.u64 (IntKind.u64.wrap (IntKind.i64.wrap ((↑x3.1 : Int) + (↑x3.2.1 : Int)))) (1 : Int))).toNat (0 : Nat)).toInt x < (0 : Int)) = false) → (∃ (x7 : Nat × Nat × Nat), ((l = l) ∧ ((x = x) ∧ ((SV.fn (35 : Nat) [] = SV.fn (35 : Nat) []) ∧ (((↑l.length : Int) = (↑l.length : Int)) ∧ (((↑x3.1 : Int) = (↑x7.1 : Int)) ∧ ((IntKind.i64.wrap (shrV IntKind.u64 (IntKind.u64.wrap (IntKind.i64.wrap ((↑x3.1 : Int) + (↑x3.2.1 : Int)))) (1 : Int)) = (↑x7.2.1 : Int)) ∧ (((x7.1 + x7.2.2 = x7.2.1) ∧ ((x7.2.1 ≤ l.length) ∧ ((l.length ≤ (256 : Nat)) ∧ ((risesT (tri l)) ∧ ((∀ (k8 : Nat), ((k8 < x7.1) → ((lnA (tri l) k8).fst < x))) ∧ ((x7.2.1 < l.length) → (x ≤ (lnA (tri l) x7.2.1).fst))))))) ∧ ((x7.2.2 < x3.2.2) ∧ (True))))))))))))))) ∧ ((decide ((↑x3.1 : Int) < (↑x3.2.1 : Int)) = false) → (((decide ((↑x3.1 : Int) < (↑l.length : Int)) = true) → (Ob ((((0 : Int) ≤ (↑x3.1 : Int)) ∧ ((↑x3.1 : Int) < (↑l.length : Int)))) ∧ (((↑x3.1 : Int) = (↑(cntLt (tri l) x) : Int)) ∧ ((decide (cmpT (elCell l x3.1 (0 : Nat)).toInt x = (0 : Int)) = thereB (tri l) x) ∧ (True))))) ∧ ((decide ((↑x3.1 : Int) < (↑l.length : Int)) = false) → (((↑x3.1 : Int) = (↑(cntLt (tri l) x) : Int)) ∧ ((thereB (tri l) x = false) ∧ (True))))))))))) := by kernel_rfl
def sh_pfind : List SV → Option ((List SV) × Int)
  | [l', .int .i64 x] => (match slOf [.int .i64, .int .i64, .int .i64] l' with | some l => some (l, x) | _ => none)
  | _ => none
def em_pfind : (List SV) × Int → List SV := fun (l, x) => [.sl [.int .i64, .int .i64, .int .i64] l, .int .i64 x]
theorem sh_pfind_le : ∀ us a, sh_pfind us = some a → leL us (em_pfind a) := by
  intro us a h
  unfold sh_pfind at h
  split at h
  · split at h
    · cases h; exact (.cons (.sl (by assumption)) (.cons (.refl _) .nil))
    · cases h
  · cases h
def pfindC : Con := conOf sh_pfind (fun (l, x) => some (Ob (chkT (tri l) = 0))) (fun (l, x) => .int .i64 (fndT (tri l) x))
set_option maxRecDepth 100000 in
theorem vc_pfind (l : List SV) (x : Int) : (wpF ⟨18, tyT, [(34, bsfC)], false, 0, [], false⟩ (noAnn) [] Try.f25 (em_pfind (l, x)) (.int .i64 (fndT (tri l) x))) = ((Ob ((chkT (tri l) = (0 : Int))) ∧ (((thereB (tri l) x = true) → (((↑(cntLt (tri l) x) : Int) = (↑(fndT (tri l) x) : Int)) ∧ (True))) ∧ ((thereB (tri l) x = false) → ((maxV (0 : Int) (IntKind.i64.wrap ((↑(cntLt (tri l) x) : Int) - (1 : Int))) = (↑(fndT (tri l) x) : Int)) ∧ (True)))))) := by kernel_rfl
def sh_pat : List SV → Option ((List SV) × Int)
  | [l', .int .i64 x] => (match slOf [.int .i64, .int .i64, .int .i64] l' with | some l => some (l, x) | _ => none)
  | _ => none
def em_pat : (List SV) × Int → List SV := fun (l, x) => [.sl [.int .i64, .int .i64, .int .i64] l, .int .i64 x]
theorem sh_pat_le : ∀ us a, sh_pat us = some a → leL us (em_pat a) := by
  intro us a h
  unfold sh_pat at h
  split at h
  · split at h
    · cases h; exact (.cons (.sl (by assumption)) (.cons (.refl _) .nil))
    · cases h
  · cases h
def patC : Con := conOf sh_pat (fun _ => none) (fun (l, x) => .tup [.int .i64 (pAtV (tri l) x), .int .i64 (pAtE (tri l) x)])
set_option maxRecDepth 100000 in
theorem vc_pat (l : List SV) (x : Int) : (wpF ⟨26, tyT, [(12, pchkC), (25, pfindC), (26, latC)], false, 0, [], false⟩ (noAnn) [] Try.f11 (em_pat (l, x)) (.tup [.int .i64 (pAtV (tri l) x), .int .i64 (pAtE (tri l) x)])) = (((((!decide (chkT (tri l) = (0 : Int))) = true) → (((0 : Int) = pAtV (tri l) x) ∧ ((chkT (tri l) = pAtE (tri l) x) ∧ (True)))) ∧ (((!decide (chkT (tri l) = (0 : Int))) = false) → (((decide (x < (0 : Int)) = true) → (((0 : Int) = pAtV (tri l) x) ∧ (((1 : Int) = pAtE (tri l) x) ∧ (True)))) ∧ ((decide (x < (0 : Int)) = false) → (((decide ((10000000000 : Int) < x) = true) → (((0 : Int) = pAtV (tri l) x) ∧ (((1 : Int) = pAtE (tri l) x) ∧ (True)))) ∧ ((decide ((10000000000 : Int) < x) = false) → (Ob ((chkT (tri l) = (0 : Int))) ∧ (Ob ((((0 : Int) ≤ (↑(fndT (tri l) x) : Int)) ∧ ((↑(fndT (tri l) x) : Int) < (↑l.length : Int)))) ∧ (Ob (((okL ((elCell l (fndT (tri l) x) (0 : Nat)).toInt, (elCell l (fndT (tri l) x) (1 : Nat)).toInt, (elCell l (fndT (tri l) x) (2 : Nat)).toInt)) ∧ (((-1 : Int) ≤ x) ∧ (x ≤ (10000000000 : Int))))) ∧ ((atT ((elCell l (fndT (tri l) x) (0 : Nat)).toInt, (elCell l (fndT (tri l) x) (1 : Nat)).toInt, (elCell l (fndT (tri l) x) (2 : Nat)).toInt) x = pAtV (tri l) x) ∧ (((0 : Int) = pAtE (tri l) x) ∧ (True))))))))))))) := by kernel_rfl
theorem eta3 (a : Ln) : (a.1, a.2.1, a.2.2) = a := rfl
theorem sub_lt (n i j : Nat) (h : n - i < n - j) : n - i < n - j := h
theorem lat_known : Known Try.prog 26 latC := by
  refine known1 (nt := 15) (An := fun (f, v, r, x) => noAnn) (labs := []) (lit := false) (em := em_lat) sh_lat_le (by kernel_rfl) mixedT tyT_ok .nil Try.func26 (by kernel_rfl) (fun a => by obtain ⟨f, v, r, x⟩ := a; kernel_rfl) (fun a => by obtain ⟨f, v, r, x⟩ := a; rfl) (fun a ha => ?_)
  obtain ⟨f, v, r, x⟩ := a
  replace ha : okL (f, v, r) ∧ -1 ≤ x ∧ x ≤ 10000000000 := ha.out
  refine ⟨_, vc_lat f v r x, ?_⟩
  obtain ⟨h1, h2, h3⟩ := ha
  have h := at_in h1 h2 h3
  have e : atT (f, v, r) x = v + (x - f) * r := rfl
  simp only [e] at h ⊢
  simp only [Int.reduceLE, Int.reduceLT, Int.reduceEq, Int.reduceNe, Nat.reduceLeDiff, Nat.reduceEqDiff, beq_eq_false_iff_ne, beq_iff_eq, decide_eq_decide, ne_eq, eq_self, true_and, and_true, and_self, and_false, false_and, Bool.not_true, Bool.not_false, Bool.false_eq_true, Bool.true_eq_false, false_implies, true_implies, implies_true, imp_false, not_true, not_false_eq_true, decide_eq_true_eq, decide_eq_false_iff_not, Bool.not_eq_true', Bool.not_eq_false', Bool.and_eq_true, Classical.not_not, decide_true, decide_false, Bool.and_true, Bool.true_and, if_true, if_false, Ob_iff]
  rw [wrapI (n := x - f) (by omega), wrapI (n := (x - f) * r) (by omega), wrapI (by omega)]

theorem bnd_known : Known Try.prog 27 bndC := by
  refine known1 (nt := 9) (An := fun x => noAnn) (labs := []) (lit := false) (em := em_bnd) sh_bnd_le (by kernel_rfl) mixedT tyT_ok .nil Try.func27 (by kernel_rfl) (fun a => by kernel_rfl) (fun a => by rfl) (fun x ha => ?_)
  refine ⟨_, vc_bnd x, ?_⟩
  simp only [Int.reduceLE, Int.reduceLT, Int.reduceEq, Int.reduceNe, Nat.reduceLeDiff, Nat.reduceEqDiff, beq_eq_false_iff_ne, beq_iff_eq, decide_eq_decide, ne_eq, eq_self, true_and, and_true, and_self, and_false, false_and, Bool.not_true, Bool.not_false, Bool.false_eq_true, Bool.true_eq_false, false_implies, true_implies, implies_true, imp_false, not_true, not_false_eq_true, decide_eq_true_eq, decide_eq_false_iff_not, Bool.not_eq_true', Bool.not_eq_false', Bool.and_eq_true, Classical.not_not, decide_true, decide_false, Bool.and_true, Bool.true_and, if_true, if_false, Ob_iff]
  refine ⟨fun h => ?_, fun h => ?_⟩
  · simp [bndB, h]
  · simp [bndB, h]

theorem pend_known : Known Try.prog 28 pendC := by
  refine known1 (nt := 17) (An := fun (l, i) => noAnn) (labs := []) (lit := false) (em := em_pend) sh_pend_le (by kernel_rfl) mixedT tyT_ok .nil Try.func28 (by kernel_rfl) (fun a => by obtain ⟨l, i⟩ := a; kernel_rfl) (fun a => by obtain ⟨l, i⟩ := a; rfl) (fun a ha => ?_)
  obtain ⟨l, i⟩ := a
  replace ha : 0 ≤ i ∧ i < l.length ∧ l.length ≤ 256 ∧ eA (tri l) l.length = 0 := ha.out
  refine ⟨_, vc_pend l i, ?_⟩
  obtain ⟨h1, h2, h3, h4⟩ := ha
  obtain ⟨i, rfl⟩ : ∃ k : Nat, i = k := ⟨i.toNat, by omega⟩
  have hl := tri_len l
  have h5 : eA (tri l) (tri l).length = 0 := by rw [hl]; exact h4
  simp only [Int.reduceLE, Int.reduceLT, Int.reduceEq, Int.reduceNe, Nat.reduceLeDiff, Nat.reduceEqDiff, beq_eq_false_iff_ne, beq_iff_eq, decide_eq_decide, ne_eq, eq_self, true_and, and_true, and_self, and_false, false_and, Bool.not_true, Bool.not_false, Bool.false_eq_true, Bool.true_eq_false, false_implies, true_implies, implies_true, imp_false, not_true, not_false_eq_true, decide_eq_true_eq, decide_eq_false_iff_not, Bool.not_eq_true', Bool.not_eq_false', Bool.and_eq_true, Classical.not_not, decide_true, decide_false, Bool.and_true, Bool.true_and, if_true, if_false, Ob_iff]
  rw [wrapI (n := (i : Int) + 1) (by omega)]
  simp only [cell0, show ((i : Int) + 1).toNat = i + 1 by omega, Int.toNat_natCast]
  refine ⟨fun h => ⟨by omega, ?_⟩, fun h => ?_⟩
  · have a := (eA_at h5 (i := i + 1) (by omega)).1
    rw [wrapI (by omega)]
    unfold endT
    rw [if_pos (by omega)]
  · unfold endT
    rw [if_neg (by omega)]

theorem pchk_known : Known Try.prog 12 pchkC := by
  refine known1 (nt := 85) (An := fun l => (pchk_an l)) (labs := []) (lit := false) (em := em_pchk) sh_pchk_le (by kernel_rfl) mixedT tyT_ok (.cons lat_known (.cons bnd_known (.cons pend_known .nil))) Try.func12 (by kernel_rfl) (fun a => by kernel_rfl) (fun a => by rfl) (fun l ha => ?_)
  refine ⟨_, vc_pchk l, ?_⟩
  simp only [Int.reduceLE, Int.reduceLT, Int.reduceEq, Int.reduceNe, Nat.reduceLeDiff, Nat.reduceEqDiff, beq_eq_false_iff_ne, beq_iff_eq, decide_eq_decide, ne_eq, eq_self, true_and, and_true, and_self, and_false, false_and, Bool.not_true, Bool.not_false, Bool.false_eq_true, Bool.true_eq_false, false_implies, true_implies, implies_true, imp_false, not_true, not_false_eq_true, decide_eq_true_eq, decide_eq_false_iff_not, Bool.not_eq_true', Bool.not_eq_false', Bool.and_eq_true, Classical.not_not, decide_true, decide_false, Bool.and_true, Bool.true_and, if_true, if_false, Ob_iff]
  simp only [cell0, cell1, cell2, eta3]
  have hl := tri_len l
  refine ⟨fun h => ?_, fun h => ⟨fun h2 => ?_, fun h2 => ⟨⟨0, rfl, by omega, by omega, by omega, rfl⟩, fun i ⟨i1, i2, i3, i4⟩ => ⟨fun h3 => ⟨by omega, ?_⟩, fun h3 => ?_⟩⟩⟩⟩
  · unfold chkT; rw [if_pos (by omega)]
  · unfold chkT; rw [if_pos (by omega)]
  · obtain ⟨c1, c2⟩ := chk_at (L := tri l) (i := i) (by omega) (by omega) i4
    simp only [wrapI (n := (i : Int) - 1) (by omega), wrapI (n := (i : Int) + 1) (by omega), show ((i : Int) - 1).toNat = i - 1 by omega]
    repeat' first | exact trivial | with_reducible rfl | apply And.intro | apply Ob.mk | intro _
    all_goals first
      | omega
      | exact (c1 (by omega)).symm
      | exact ((c2 (by omega)).1 (by omega)).symm
      | exact (((c2 (by omega)).2 (by omega)).1 (by omega)).symm
      | exact ⟨i + 1, by omega, ⟨by omega, by omega, by omega, ((c2 (by omega)).2 (by omega)).2 (by omega)⟩, by omega⟩
  · have e : i = l.length := by omega
    subst e
    have hA : eA (tri l) (tri l).length = 0 := by rw [hl]; exact i4
    refine ⟨⟨0, rfl, by omega, by omega, by omega, i4, rfl⟩, fun i ⟨j1, j2, j3, j4, j5⟩ => ⟨fun k => ⟨by omega, ?_⟩, fun k => ?_⟩⟩
    · obtain ⟨c1, c2, c3⟩ := chk_at2 (L := tri l) (i := i) (by omega) (by omega) hA j5
      have b := eA_at hA (i := i) (by omega)
      have d := end_in hA (i := i) (by omega)
      refine ⟨fun h => (c1 h).symm, fun h => ⟨⟨by omega, by omega, by omega, j4⟩, ⟨⟨b.1, ?_, by omega⟩, by omega, by omega⟩, fun h2 => (c2 h2).symm, fun h2 => ⟨i + 1, ?_, ⟨by omega, by omega, by omega, j4, c3 h h2⟩, by omega⟩⟩⟩
      · have := bndB_iff.1 h; omega
      · rw [wrapI (by omega)]; omega
    · have e : i = l.length := by omega
      subst e
      unfold chkT
      rw [if_neg (by omega), if_pos hA, hl, j5]

theorem fcmp_known : Known Try.prog 35 fcmpC := by
  refine known1 (nt := 15) (An := fun (f, v, r, x) => noAnn) (labs := []) (lit := false) (em := em_fcmp) sh_fcmp_le (by kernel_rfl) mixedT tyT_ok .nil Try.func35 (by kernel_rfl) (fun a => by obtain ⟨f, v, r, x⟩ := a; kernel_rfl) (fun a => by obtain ⟨f, v, r, x⟩ := a; rfl) (fun a ha => ?_)
  obtain ⟨f, v, r, x⟩ := a
  refine ⟨_, vc_fcmp f v r x, ?_⟩
  simp only [Int.reduceLE, Int.reduceLT, Int.reduceEq, Int.reduceNe, Nat.reduceLeDiff, Nat.reduceEqDiff, beq_eq_false_iff_ne, beq_iff_eq, decide_eq_decide, ne_eq, eq_self, true_and, and_true, and_self, and_false, false_and, Bool.not_true, Bool.not_false, Bool.false_eq_true, Bool.true_eq_false, false_implies, true_implies, implies_true, imp_false, not_true, not_false_eq_true, decide_eq_true_eq, decide_eq_false_iff_not, Bool.not_eq_true', Bool.not_eq_false', Bool.and_eq_true, Classical.not_not, decide_true, decide_false, Bool.and_true, Bool.true_and, if_true, if_false, Ob_iff]
  refine ⟨fun h => ?_, fun h => ⟨fun h2 => ?_, fun h2 => ?_⟩⟩
  · unfold cmpT; rw [if_pos h]
  · unfold cmpT; rw [if_neg h, if_pos h2]
  · unfold cmpT; rw [if_neg h, if_neg h2]

theorem cmp_lt {f x : Int} : cmpT f x < 0 ↔ f < x := by
  unfold cmpT
  split
  · omega
  · split <;> omega
theorem cmp_z {f x : Int} : cmpT f x = 0 ↔ f = x := by
  unfold cmpT
  split
  · omega
  · split <;> omega
theorem half {i j n : Nat} (h : i < j) (hj : j ≤ n) (hn : n ≤ 256) : IntKind.i64.wrap (shrV IntKind.u64 (IntKind.u64.wrap (IntKind.i64.wrap ((i : Int) + (j : Int)))) (1 : Int)) = (((i + j) / 2 : Nat) : Int) := by
  rw [wrapI (n := (i : Int) + j) (by omega)]
  have e1 : IntKind.u64.wrap ((i : Int) + j) = (i : Int) + j := by
    have := IntWalk.u64_in ((i : Int) + j) (by omega)
    exact this
  rw [e1]
  have e2 : shrV IntKind.u64 ((i : Int) + j) 1 = (((i + j) / 2 : Nat) : Int) := by
    unfold shrV
    rw [show (min (1 : Int).toNat IntKind.u64.bits) = 1 from rfl]
    rw [Int.fdiv_eq_ediv_of_nonneg _ (by decide)]
    omega
  rw [e2, wrapI (by omega)]
theorem bsf_known : Known Try.prog 34 bsfC := by
  refine known1 (nt := 49) (An := fun (l, x) => (bsf_an l x 35)) (labs := []) (lit := false) (em := em_bsf) sh_bsf_le (by kernel_rfl) mixedT tyT_ok (.cons fcmp_known .nil) Try.func34 (by kernel_rfl) (fun a => by obtain ⟨l, x⟩ := a; kernel_rfl) (fun a => by obtain ⟨l, x⟩ := a; rfl) (fun a ha => ?_)
  obtain ⟨l, x⟩ := a
  replace ha : chkT (tri l) = 0 := ha.out
  refine ⟨_, vc_bsf l x, ?_⟩
  simp only [Int.reduceLE, Int.reduceLT, Int.reduceEq, Int.reduceNe, Nat.reduceLeDiff, Nat.reduceEqDiff, beq_eq_false_iff_ne, beq_iff_eq, decide_eq_decide, ne_eq, eq_self, true_and, and_true, and_self, and_false, false_and, Bool.not_true, Bool.not_false, Bool.false_eq_true, Bool.true_eq_false, false_implies, true_implies, implies_true, imp_false, not_true, not_false_eq_true, decide_eq_true_eq, decide_eq_false_iff_not, Bool.not_eq_true', Bool.not_eq_false', Bool.and_eq_true, Classical.not_not, decide_true, decide_false, Bool.and_true, Bool.true_and, if_true, if_false, Ob_iff]
  have hl := tri_len l
  have hs := chk_ok.1 ha
  have hr := stdT_rises hs
  have h1 := hs.1
  have h2 := hs.2.1
  simp only [cell0, cmp_lt, cmp_z]
  refine ⟨⟨(0, l.length, l.length), rfl, rfl, by show 0 + l.length = l.length; omega, Nat.le_refl _, by omega, hr, fun k hk => absurd hk (Nat.not_lt_zero _), fun h => absurd h (Nat.lt_irrefl _)⟩, fun x3 ⟨i1, i2, i3, i4, i5, i6⟩ => ⟨fun h => ?_, fun h => ?_⟩⟩
  · obtain ⟨i, j, d⟩ := x3
    simp only at i1 i2 i5 i6 h ⊢
    have h : i < j := by omega
    simp only [half (show i < j from h) i2 i3]
    obtain ⟨m, hm⟩ : ∃ m, m = (i + j) / 2 := ⟨_, rfl⟩
    have hm1 : i ≤ m ∧ m < j := by omega
    simp only [← hm, Int.toNat_natCast]
    refine ⟨by omega, fun h3 => ⟨(m + 1, j, j - (m + 1)), ?_, rfl, ⟨by show m + 1 + (j - (m + 1)) = j; omega, i2, i3, i4, fun k hk => ?_, i6⟩, by show j - (m + 1) < d; omega⟩, fun h3 => ⟨(i, m, m - i), rfl, rfl, ⟨by show i + (m - i) = m; omega, by show m ≤ l.length; omega, i3, i4, i5, fun _ => by show x ≤ (lnA (tri l) m).1; omega⟩, by show m - i < d; omega⟩⟩
    · rw [wrapI (by omega)]; show (m : Int) + 1 = ((m + 1 : Nat) : Int); omega
    · rcases Nat.lt_or_ge k m with h4 | h4
      · have := rises_lt i4 h4 (by omega); omega
      · rw [show k = m by omega]; exact h3
  · obtain ⟨i, j, d⟩ := x3
    simp only at i1 i2 i5 i6 h ⊢
    have e : i = j := by omega
    subst e
    have ec : i = cntLt (tri l) x := cnt_eq (by omega) i5 (fun h => i6 (by omega))
    refine ⟨fun h3 => ⟨by omega, by rw [← ec], ?_⟩, fun h3 => ⟨by rw [← ec], ?_⟩⟩
    · unfold thereB
      rw [← ec]
      simp only [show i < (tri l).length by omega, decide_true, Bool.true_and]
    · unfold thereB
      rw [← ec]
      simp only [show ¬ i < (tri l).length by omega, decide_false, Bool.false_and]

theorem pfind_known : Known Try.prog 25 pfindC := by
  refine known1 (nt := 18) (An := fun (l, x) => noAnn) (labs := []) (lit := false) (em := em_pfind) sh_pfind_le (by kernel_rfl) mixedT tyT_ok (.cons bsf_known .nil) Try.func25 (by kernel_rfl) (fun a => by obtain ⟨l, x⟩ := a; kernel_rfl) (fun a => by obtain ⟨l, x⟩ := a; rfl) (fun a ha => ?_)
  obtain ⟨l, x⟩ := a
  replace ha : chkT (tri l) = 0 := ha.out
  refine ⟨_, vc_pfind l x, ?_⟩
  have hs := chk_ok.1 ha
  have hl := tri_len l
  have hc := cnt_le (tri l) x
  have h2 := hs.2.1
  simp only [Int.reduceLE, Int.reduceLT, Int.reduceEq, Int.reduceNe, Nat.reduceLeDiff, Nat.reduceEqDiff, beq_eq_false_iff_ne, beq_iff_eq, decide_eq_decide, ne_eq, eq_self, true_and, and_true, and_self, and_false, false_and, Bool.not_true, Bool.not_false, Bool.false_eq_true, Bool.true_eq_false, false_implies, true_implies, implies_true, imp_false, not_true, not_false_eq_true, decide_eq_true_eq, decide_eq_false_iff_not, Bool.not_eq_true', Bool.not_eq_false', Bool.and_eq_true, Classical.not_not, decide_true, decide_false, Bool.and_true, Bool.true_and, if_true, if_false, Ob_iff]
  refine ⟨ha, fun h => ?_, fun h => ?_⟩
  · unfold fndT; rw [if_pos h]
  · unfold fndT
    rw [if_neg (by rw [h]; decide), wrapI (by omega)]
    unfold maxV
    split <;> omega

/-- A piece of a function that stands may be reckoned. -/
theorem std_ok {L : List Ln} (h : stdT L) {i : Nat} (hi : i < L.length) : okL (lnA L i) := by
  have := h.2.2 i hi
  unfold pOk at this
  unfold okL
  omega
theorem std_fnd {L : List Ln} (h : stdT L) {x : Int} (hx : 0 ≤ x) : fndT L x < L.length ∧ (lnA L (fndT L x)).1 ≤ x ∧ (fndT L x + 1 < L.length → x < (lnA L (fndT L x + 1)).1) :=
  fnd_in (stdT_rises h) h.1 (by have := (h.2.2 0 h.1).2.1 rfl; omega)
theorem pat_known : Known Try.prog 11 patC := by
  refine known1 (nt := 26) (An := fun (l, x) => noAnn) (labs := []) (lit := false) (em := em_pat) sh_pat_le (by kernel_rfl) mixedT tyT_ok (.cons pchk_known (.cons pfind_known (.cons lat_known .nil))) Try.func11 (by kernel_rfl) (fun a => by obtain ⟨l, x⟩ := a; kernel_rfl) (fun a => by obtain ⟨l, x⟩ := a; rfl) (fun a ha => ?_)
  obtain ⟨l, x⟩ := a
  refine ⟨_, vc_pat l x, ?_⟩
  simp only [Int.reduceLE, Int.reduceLT, Int.reduceEq, Int.reduceNe, Nat.reduceLeDiff, Nat.reduceEqDiff, beq_eq_false_iff_ne, beq_iff_eq, decide_eq_decide, ne_eq, eq_self, true_and, and_true, and_self, and_false, false_and, Bool.not_true, Bool.not_false, Bool.false_eq_true, Bool.true_eq_false, false_implies, true_implies, implies_true, imp_false, not_true, not_false_eq_true, decide_eq_true_eq, decide_eq_false_iff_not, Bool.not_eq_true', Bool.not_eq_false', Bool.and_eq_true, Classical.not_not, decide_true, decide_false, Bool.and_true, Bool.true_and, if_true, if_false, Ob_iff]
  simp only [cell0, cell1, cell2, eta3]
  have hl := tri_len l
  refine ⟨fun h => ?_, fun h => ⟨fun h2 => ?_, fun h2 => ⟨fun h3 => ?_, fun h3 => ?_⟩⟩⟩
  · have e : pAtE (tri l) x = chkT (tri l) := by unfold pAtE; rw [if_neg h]
    unfold pAtV; rw [e, if_neg h]; exact ⟨rfl, rfl⟩
  · have e : pAtE (tri l) x = 1 := by unfold pAtE; rw [if_pos h, if_pos (by omega)]
    unfold pAtV; rw [e, if_neg (by decide)]; exact ⟨rfl, rfl⟩
  · have e : pAtE (tri l) x = 1 := by unfold pAtE; rw [if_pos h, if_pos (by omega)]
    unfold pAtV; rw [e, if_neg (by decide)]; exact ⟨rfl, rfl⟩
  · have hs := chk_ok.1 h
    have e : pAtE (tri l) x = 0 := by unfold pAtE; rw [if_pos h, if_neg (by omega)]
    obtain ⟨f1, f2, f3⟩ := std_fnd hs (x := x) (by omega)
    unfold pAtV; rw [e, if_pos rfl]
    exact ⟨h, by omega, ⟨std_ok hs f1, by omega, by omega⟩, rfl, rfl⟩

end Go.Rx
