/- A year: the law's own means; which payslips hang together. -/
import Derived.Test.YtkmiakgpkgmcbaaYk
namespace Go.Rx
open Go.Proofs
set_option linter.unusedSimpArgs false
set_option linter.unusedVariables false

def smN (L : List SV) : Nat → Bool
  | 0 => true
  | i + 1 => smN L i && (decide ((slS L i).length ≤ 30) && decide ((slT L i).length ≤ 30))
def smB (L : List SV) : Bool := smN L L.length && decide (L.length ≤ 60)
def sm_an (L : List SV) : Nat → Option Ann
  | 0 => some ⟨Nat, fun i => ⟨[(0, .sl slipK L), (5, .sl slipK L), (6, .int .i64 L.length), (7, .int .i64 i)], []⟩, fun i => i ≤ L.length ∧ L.length ≤ 9223372036854775807 ∧ smN L i = true, fun i => L.length - i, [0, 5, 6, 7], [], [], fun _ _ => none⟩
  | _ => none
def slC (p c t s x h : Int) (S : List SV) (n : Int) (T : List SV) (y : Int) : List SV := [.int .i64 p, .int .i64 c, .int .i64 t, .int .i64 s, .int .i64 x, .int .i64 h, .sl shK S, .int .i64 n, .sl tkK T, .int .i64 y]
def r7 (c t s x h n y : Int) : Bool := r3 c t s && (rightB x && (rightB h && (rightB n && rightB y)))
def wr_an (p c t s x h : Int) (S : List SV) (n : Int) (T : List SV) (y m : Int) : Nat → Option Ann
  | 0 => some ⟨Nat, fun i => ⟨[(2, .ptr 2 0), (5, .int .i64 (colS S 0 i)), (6, .int .i64 (colS S 1 i)), (26, .sl shK S), (27, .int .i64 S.length), (28, .int .i64 i)], [(2, .box 27 (slC p c t s x h S n T y))]⟩, fun i => i ≤ S.length ∧ ¬ (p < 1 ∨ 53 < p) ∧ (S.length : Int) = m ∧ totB S i = true, fun i => S.length - i, [2, 5, 6, 26, 27, 28], [2], [], fun _ _ => none⟩
  | 2 => some ⟨Nat, fun i => ⟨[(2, .ptr 2 0), (5, .int .i64 (colS S 0 S.length)), (9, .int .i64 (colS T 4 i)), (82, .sl tkK T), (83, .int .i64 T.length), (84, .int .i64 i)], [(2, .box 27 (slC p c t s x h S n T y))]⟩, fun i => i ≤ T.length ∧ ¬ (p < 1 ∨ 53 < p) ∧ (S.length : Int) = m ∧ totB S S.length = true ∧ r7 c t s x h n y = true ∧ takB T i = true, fun i => T.length - i, [2, 5, 9, 82, 83, 84], [2], [], fun _ _ => none⟩
  | _ => none

def sh_lright : List SV → Option (List SV)
  | [l'] => (match slOf [.int .i64] l' with | some l => some l | _ => none)
  | _ => none
def em_lright : List SV → List SV := fun l => [.sl [.int .i64] l]
theorem sh_lright_le : ∀ us a, sh_lright us = some a → leL us (em_lright a) := by
  intro us a h
  unfold sh_lright at h
  split at h
  · split at h
    · cases h; exact (.cons (.sl (by assumption)) .nil)
    · cases h
  · cases h
def lrightC : Con := conOf sh_lright (fun l => some (Ob (l.length ≤ 9000000000000000000))) (fun l => .bool (rightL l))
set_option maxRecDepth 100000 in
theorem vc_lright (l : List SV) : (wpF ⟨18, tyT, [], false, 0, [], false⟩ ((right_an l)) [] Try.f30 (em_lright l) (.bool (rightL l))) = (((∃ (x1 : Nat), ((l = l) ∧ (((↑l.length : Int) = (↑l.length : Int)) ∧ (((0 : Int) = (↑x1 : Int)) ∧ (((x1 ≤ l.length) ∧ ((l.length ≤ (9000000000000000000 : Nat)) ∧ ((List.take x1 (ints l)).all rightB = true))) ∧ ((True) ∧ (True))))))) ∧ (∀ (x2 : Nat), (((x2 ≤ l.length) ∧ ((l.length ≤ (9000000000000000000 : Nat)) ∧ ((List.take x2 (ints l)).all rightB = true))) → (((decide ((↑x2 : Int) < (↑l.length : Int)) = true) → (Ob ((((0 : Int) ≤ (↑x2 : Int)) ∧ ((↑x2 : Int) < (↑l.length : Int)))) ∧ (((decide ((100000000000 : Int) < (elCell l x2 (0 : Nat)).toInt) = true) → ((rightL l = false) ∧ (True))) ∧ ((decide ((100000000000 : Int) < (elCell l x2 (0 : Nat)).toInt) = false) → (((decide ((elCell l x2 (0 : Nat)).toInt < (-100000000000 : Int)) = true) → ((rightL l = false) ∧ (True))) ∧ ((decide ((elCell l x2 (0 : Nat)).toInt < (-100000000000 : Int)) = false) → (∃ (x3 : Nat), ((l = l) ∧ (((↑l.length : Int) = (↑l.length : Int)) ∧ ((IntKind.i64.wrap ((↑x2 : Int) + (1 : Int)) = (↑x3 : Int)) ∧ (((x3 ≤ l.length) ∧ ((l.length ≤ (9000000000000000000 : Nat)) ∧ ((List.take x3 (ints l)).all rightB = true))) ∧ ((l.length - x3 < l.length - x2) ∧ (True))))))))))))) ∧ ((decide ((↑x2 : Int) < (↑l.length : Int)) = false) → ((rightL l = true) ∧ (True)))))))) := by kernel_rfl
def sh_lsmall : List SV → Option (List SV)
  | [L'] => (match slOf [.int .i64, .int .i64, .int .i64, .int .i64, .int .i64, .int .i64, .sl [.int .i64, .int .i64], .int .i64, .sl [.int .i64, .int .i64, .int .i64, .int .i64, .int .i64, .int .i64], .int .i64] L' with | some L => some L | _ => none)
  | _ => none
def em_lsmall : List SV → List SV := fun L => [.sl [.int .i64, .int .i64, .int .i64, .int .i64, .int .i64, .int .i64, .sl [.int .i64, .int .i64], .int .i64, .sl [.int .i64, .int .i64, .int .i64, .int .i64, .int .i64, .int .i64], .int .i64] L]
theorem sh_lsmall_le : ∀ us a, sh_lsmall us = some a → leL us (em_lsmall a) := by
  intro us a h
  unfold sh_lsmall at h
  split at h
  · split at h
    · cases h; exact (.cons (.sl (by assumption)) .nil)
    · cases h
  · cases h
def lsmallC : Con := conOf sh_lsmall (fun L => some (Ob (L.length ≤ 9223372036854775807))) (fun L => .bool (smB L))
set_option maxRecDepth 100000 in
theorem vc_lsmall (L : List SV) : (wpF ⟨25, tyT, [], false, 0, [], false⟩ ((sm_an L)) [] Try.f8 (em_lsmall L) (.bool (smB L))) = (((∃ (x1 : Nat), ((L = L) ∧ ((L = L) ∧ (((↑L.length : Int) = (↑L.length : Int)) ∧ (((0 : Int) = (↑x1 : Int)) ∧ (((x1 ≤ L.length) ∧ ((L.length ≤ (9223372036854775807 : Nat)) ∧ (smN L x1 = true))) ∧ ((True) ∧ (True)))))))) ∧ (∀ (x2 : Nat), (((x2 ≤ L.length) ∧ ((L.length ≤ (9223372036854775807 : Nat)) ∧ (smN L x2 = true))) → (((decide ((↑x2 : Int) < (↑L.length : Int)) = true) → (Ob ((((0 : Int) ≤ (↑x2 : Int)) ∧ ((↑x2 : Int) < (↑L.length : Int)))) ∧ (((decide ((30 : Int) < (↑(elCell L x2 (6 : Nat)).toSl.length : Int)) = true) → ((smB L = false) ∧ (True))) ∧ ((decide ((30 : Int) < (↑(elCell L x2 (6 : Nat)).toSl.length : Int)) = false) → (((decide ((30 : Int) < (↑(elCell L x2 (8 : Nat)).toSl.length : Int)) = true) → ((smB L = false) ∧ (True))) ∧ ((decide ((30 : Int) < (↑(elCell L x2 (8 : Nat)).toSl.length : Int)) = false) → (∃ (x3 : Nat), ((L = L) ∧ ((L = L) ∧ (((↑L.length : Int) = (↑L.length : Int)) ∧ ((IntKind.i64.wrap ((↑x2 : Int) + (1 : Int)) = (↑x3 : Int)) ∧ (((x3 ≤ L.length) ∧ ((L.length ≤ (9223372036854775807 : Nat)) ∧ (smN L x3 = true))) ∧ ((L.length - x3 < L.length - x2) ∧ (True)))))))))))))) ∧ ((decide ((↑x2 : Int) < (↑L.length : Int)) = false) → ((decide ((↑L.length : Int) ≤ (60 : Int)) = smB L) ∧ (True)))))))) := by kernel_rfl
def sh_lwrong : List SV → Option (Int × Int × Int × Int × Int × Int × (List SV) × Int × (List SV) × Int × Int)
  | [.agg [.int .i64 p, .int .i64 c, .int .i64 t, .int .i64 s, .int .i64 x, .int .i64 h, S', .int .i64 n, T', .int .i64 y], .int .i64 m] => (match slOf [.int .i64, .int .i64] S' with | some S => (match slOf [.int .i64, .int .i64, .int .i64, .int .i64, .int .i64, .int .i64] T' with | some T => some (p, c, t, s, x, h, S, n, T, y, m) | _ => none) | _ => none)
  | _ => none
def em_lwrong : Int × Int × Int × Int × Int × Int × (List SV) × Int × (List SV) × Int × Int → List SV := fun (p, c, t, s, x, h, S, n, T, y, m) => [.agg [.int .i64 p, .int .i64 c, .int .i64 t, .int .i64 s, .int .i64 x, .int .i64 h, .sl [.int .i64, .int .i64] S, .int .i64 n, .sl [.int .i64, .int .i64, .int .i64, .int .i64, .int .i64, .int .i64] T, .int .i64 y], .int .i64 m]
theorem sh_lwrong_le : ∀ us a, sh_lwrong us = some a → leL us (em_lwrong a) := by
  intro us a h
  unfold sh_lwrong at h
  split at h
  · split at h
    · split at h
      · cases h; exact (.cons (.agg (.cons (.refl _) (.cons (.refl _) (.cons (.refl _) (.cons (.refl _) (.cons (.refl _) (.cons (.refl _) (.cons (.sl (by assumption)) (.cons (.refl _) (.cons (.sl (by assumption)) (.cons (.refl _) .nil))))))))))) (.cons (.refl _) .nil))
      · cases h
    · cases h
  · cases h
def lwrongC : Con := conOf sh_lwrong (fun (p, c, t, s, x, h, S, n, T, y, m) => some (Ob (S.length ≤ 1000000000 ∧ T.length ≤ 1000000000))) (fun (p, c, t, s, x, h, S, n, T, y, m) => .int .i64 (chkY p c t s x h S n T y m))
set_option maxRecDepth 100000 in
theorem vc_lwrong (p : Int) (c : Int) (t : Int) (s : Int) (x : Int) (h : Int) (S : List SV) (n : Int) (T : List SV) (y : Int) (m : Int) : (wpF ⟨127, tyT, [(30, lrightC)], false, 0, [], false⟩ ((wr_an p c t s x h S n T y m)) [] Try.f10 (em_lwrong (p, c, t, s, x, h, S, n, T, y, m)) (.int .i64 (chkY p c t s x h S n T y m))) = ((((decide (p < (1 : Int)) = true) → (((1 : Int) = chkY p c t s x h S n T y m) ∧ (True))) ∧ ((decide (p < (1 : Int)) = false) → (((decide ((53 : Int) < p) = true) → (((1 : Int) = chkY p c t s x h S n T y m) ∧ (True))) ∧ ((decide ((53 : Int) < p) = false) → ((((!decide ((↑S.length : Int) = m)) = true) → (((3 : Int) = chkY p c t s x h S n T y m) ∧ (True))) ∧ (((!decide ((↑S.length : Int) = m)) = false) → ((∃ (x1 : Nat), (((0 : Int) = colS S (0 : Nat) x1) ∧ (((0 : Int) = colS S (1 : Nat) x1) ∧ ((S = S) ∧ (((↑S.length : Int) = (↑S.length : Int)) ∧ (((0 : Int) = (↑x1 : Int)) ∧ ((p = p) ∧ ((c = c) ∧ ((t = t) ∧ ((s = s) ∧ ((x = x) ∧ ((h = h) ∧ ((S = S) ∧ ((n = n) ∧ ((T = T) ∧ ((y = y) ∧ (((x1 ≤ S.length) ∧ ((¬(p < (1 : Int) ∨ (53 : Int) < p)) ∧ (((↑S.length : Int) = m) ∧ (totB S x1 = true)))) ∧ ((True) ∧ (True))))))))))))))))))) ∧ (∀ (x2 : Nat), (((x2 ≤ S.length) ∧ ((¬(p < (1 : Int) ∨ (53 : Int) < p)) ∧ (((↑S.length : Int) = m) ∧ (totB S x2 = true)))) → (((decide ((↑x2 : Int) < (↑S.length : Int)) = true) → (Ob ((((0 : Int) ≤ (↑x2 : Int)) ∧ ((↑x2 : Int) < (↑S.length : Int)))) ∧ (Ob (((2 : Nat) ≤ (9000000000000000000 : Nat))) ∧ ((((!rightL [SV.int IntKind.i64 (elCell S x2 (0 : Nat)).toInt, SV.int IntKind.i64 (elCell S x2 (1 : Nat)).toInt]) = true) → (((10 : Int) = chkY p c t s x h S n T y m) ∧ (True))) ∧ (((!rightL [SV.int IntKind.i64 (elCell S x2 (0 : Nat)).toInt, SV.int IntKind.i64 (elCell S x2 (1 : Nat)).toInt]) = false) → (Ob (((2 : Nat) ≤ (9000000000000000000 : Nat))) ∧ ((((!rightL [SV.int IntKind.i64 (IntKind.i64.wrap (colS S (0 : Nat) x2 + (elCell S x2 (0 : Nat)).toInt)), SV.int IntKind.i64 (IntKind.i64.wrap (colS S (1 : Nat) x2 + (elCell S x2 (1 : Nat)).toInt))]) = true) → (((10 : Int) = chkY p c t s x h S n T y m) ∧ (True))) ∧ (((!rightL [SV.int IntKind.i64 (IntKind.i64.wrap (colS S (0 : Nat) x2 + (elCell S x2 (0 : Nat)).toInt)), SV.int IntKind.i64 (IntKind.i64.wrap (colS S (1 : Nat) x2 + (elCell S x2 (1 : Nat)).toInt))]) = false) → (∃ (x3 : Nat), ((IntKind.i64.wrap (colS S (0 : Nat) x2 + (elCell S x2 (0 : Nat)).toInt) = colS S (0 : Nat) x3) ∧ ((IntKind.i64.wrap (colS S (1 : Nat) x2 + (elCell S x2 (1 : Nat)).toInt) = colS S (1 : Nat) x3) ∧ ((S = S) ∧ (((↑S.length : Int) = (↑S.length : Int)) ∧ ((IntKind.i64.wrap ((↑x2 : Int) + (1 : Int)) = (↑x3 : Int)) ∧ ((p = p) ∧ ((c = c) ∧ ((t = t) ∧ ((s = s) ∧ ((x = x) ∧ ((h = h) ∧ ((S = S) ∧ ((n = n) ∧ ((T = T) ∧ ((y = y) ∧ (((x3 ≤ S.length) ∧ ((¬(p < (1 : Int) ∨ (53 : Int) < p)) ∧ (((↑S.length : Int) = m) ∧ (totB S x3 = true)))) ∧ ((S.length - x3 < S.length - x2) ∧ (True))))))))))))))))))))))))))) ∧ ((decide ((↑x2 : Int) < (↑S.length : Int)) = false) → (Ob (((7 : Nat) ≤ (9000000000000000000 : Nat))) ∧ ((((!rightL [SV.int IntKind.i64 c, SV.int IntKind.i64 t, SV.int IntKind.i64 s, SV.int IntKind.i64 x, SV.int IntKind.i64 h, SV.int IntKind.i64 n, SV.int IntKind.i64 y]) = true) → (((10 : Int) = chkY p c t s x h S n T y m) ∧ (True))) ∧ (((!rightL [SV.int IntKind.i64 c, SV.int IntKind.i64 t, SV.int IntKind.i64 s, SV.int IntKind.i64 x, SV.int IntKind.i64 h, SV.int IntKind.i64 n, SV.int IntKind.i64 y]) = false) → ((∃ (x4 : Nat), ((colS S (0 : Nat) x2 = colS S (0 : Nat) S.length) ∧ (((0 : Int) = colS T (4 : Nat) x4) ∧ ((T = T) ∧ (((↑T.length : Int) = (↑T.length : Int)) ∧ (((0 : Int) = (↑x4 : Int)) ∧ ((p = p) ∧ ((c = c) ∧ ((t = t) ∧ ((s = s) ∧ ((x = x) ∧ ((h = h) ∧ ((S = S) ∧ ((n = n) ∧ ((T = T) ∧ ((y = y) ∧ (((x4 ≤ T.length) ∧ ((¬(p < (1 : Int) ∨ (53 : Int) < p)) ∧ (((↑S.length : Int) = m) ∧ ((totB S S.length = true) ∧ ((r7 c t s x h n y = true) ∧ (takB T x4 = true)))))) ∧ ((True) ∧ (True))))))))))))))))))) ∧ (∀ (x5 : Nat), (((x5 ≤ T.length) ∧ ((¬(p < (1 : Int) ∨ (53 : Int) < p)) ∧ (((↑S.length : Int) = m) ∧ ((totB S S.length = true) ∧ ((r7 c t s x h n y = true) ∧ (takB T x5 = true)))))) → (((decide ((↑x5 : Int) < (↑T.length : Int)) = true) → (Ob ((((0 : Int) ≤ (↑x5 : Int)) ∧ ((↑x5 : Int) < (↑T.length : Int)))) ∧ (Ob (((1 : Nat) ≤ (9000000000000000000 : Nat))) ∧ ((((!rightL [SV.int IntKind.i64 (elCell T x5 (4 : Nat)).toInt]) = true) → (((10 : Int) = chkY p c t s x h S n T y m) ∧ (True))) ∧ (((!rightL [SV.int IntKind.i64 (elCell T x5 (4 : Nat)).toInt]) = false) → (Ob (((1 : Nat) ≤ (9000000000000000000 : Nat))) ∧ ((((!rightL [SV.int IntKind.i64 (IntKind.i64.wrap (colS T (4 : Nat) x5 + (elCell T x5 (4 : Nat)).toInt))]) = true) → (((10 : Int) = chkY p c t s x h S n T y m) ∧ (True))) ∧ (((!rightL [SV.int IntKind.i64 (IntKind.i64.wrap (colS T (4 : Nat) x5 + (elCell T x5 (4 : Nat)).toInt))]) = false) → (∃ (x6 : Nat), ((colS S (0 : Nat) S.length = colS S (0 : Nat) S.length) ∧ ((IntKind.i64.wrap (colS T (4 : Nat) x5 + (elCell T x5 (4 : Nat)).toInt) = colS T (4 : Nat) x6) ∧ ((T = T) ∧ (((↑T.length : Int) = (↑T.length : Int)) ∧ ((IntKind.i64.wrap ((↑x5 : Int) + (1 : Int)) = (↑x6 : Int)) ∧ ((p = p) ∧ ((c = c) ∧ ((t = t) ∧ ((s = s) ∧ ((x = x) ∧ ((h = h) ∧ ((S = S) ∧ ((n = n) ∧ ((T = T) ∧ ((y = y) ∧ (((x6 ≤ T.length) ∧ ((¬(p < (1 : Int) ∨ (53 : Int) < p)) ∧ (((↑S.length : Int) = m) ∧ ((totB S S.length = true) ∧ ((r7 c t s x h n y = true) ∧ (takB T x6 = true)))))) ∧ ((T.length - x6 < T.length - x5) ∧ (True))))))))))))))))))))))))))) ∧ ((decide ((↑x5 : Int) < (↑T.length : Int)) = false) → ((((!decide (IntKind.i64.wrap (IntKind.i64.wrap (c - x) - colS S (0 : Nat) S.length) = n)) = true) → (((5 : Int) = chkY p c t s x h S n T y m) ∧ (True))) ∧ (((!decide (IntKind.i64.wrap (IntKind.i64.wrap (c - x) - colS S (0 : Nat) S.length) = n)) = false) → ((((!decide (IntKind.i64.wrap (n - colS T (4 : Nat) x5) = y)) = true) → (((5 : Int) = chkY p c t s x h S n T y m) ∧ (True))) ∧ (((!decide (IntKind.i64.wrap (n - colS T (4 : Nat) x5) = y)) = false) → (((0 : Int) = chkY p c t s x h S n T y m) ∧ (True)))))))))))))))))))))))))) := by kernel_rfl
def sh_lychecks : List SV → Option (Int × Int × Int × Int × Int × Int × (List SV) × Int × (List SV) × Int × Int)
  | [.agg [.int .i64 p, .int .i64 c, .int .i64 t, .int .i64 s, .int .i64 x, .int .i64 h, S', .int .i64 n, T', .int .i64 y], .int .i64 m] => (match slOf [.int .i64, .int .i64] S' with | some S => (match slOf [.int .i64, .int .i64, .int .i64, .int .i64, .int .i64, .int .i64] T' with | some T => some (p, c, t, s, x, h, S, n, T, y, m) | _ => none) | _ => none)
  | _ => none
def em_lychecks : Int × Int × Int × Int × Int × Int × (List SV) × Int × (List SV) × Int × Int → List SV := fun (p, c, t, s, x, h, S, n, T, y, m) => [.agg [.int .i64 p, .int .i64 c, .int .i64 t, .int .i64 s, .int .i64 x, .int .i64 h, .sl [.int .i64, .int .i64] S, .int .i64 n, .sl [.int .i64, .int .i64, .int .i64, .int .i64, .int .i64, .int .i64] T, .int .i64 y], .int .i64 m]
theorem sh_lychecks_le : ∀ us a, sh_lychecks us = some a → leL us (em_lychecks a) := by
  intro us a h
  unfold sh_lychecks at h
  split at h
  · split at h
    · split at h
      · cases h; exact (.cons (.agg (.cons (.refl _) (.cons (.refl _) (.cons (.refl _) (.cons (.refl _) (.cons (.refl _) (.cons (.refl _) (.cons (.sl (by assumption)) (.cons (.refl _) (.cons (.sl (by assumption)) (.cons (.refl _) .nil))))))))))) (.cons (.refl _) .nil))
      · cases h
    · cases h
  · cases h
def lychecksC : Con := conOf sh_lychecks (fun (p, c, t, s, x, h, S, n, T, y, m) => some (Ob (in64 p ∧ in64 c ∧ in64 t ∧ in64 s ∧ in64 x ∧ in64 h ∧ wfL [.int .i64, .int .i64] S ∧ in64 n ∧ wfL [.int .i64, .int .i64, .int .i64, .int .i64, .int .i64, .int .i64] T ∧ in64 y ∧ in64 m))) (fun (p, c, t, s, x, h, S, n, T, y, m) => .bool true)
set_option maxRecDepth 100000 in
theorem vc_lychecks (p : Int) (c : Int) (t : Int) (s : Int) (x : Int) (h : Int) (S : List SV) (n : Int) (T : List SV) (y : Int) (m : Int) : (wpF ⟨18, tyT, [(7, ykeepsC), (8, lsmallC), (9, ycheckC), (10, lwrongC)], false, 0, [], false⟩ (noAnn) [] Try.f3 (em_lychecks (p, c, t, s, x, h, S, n, T, y, m)) (.bool true)) = (((((!true) = true) → ((true = false) ∧ (True))) ∧ (((!true) = false) → (Ob (((1 : Nat) ≤ (9223372036854775807 : Nat))) ∧ ((((!smB [SV.agg [SV.int IntKind.i64 p, SV.int IntKind.i64 c, SV.int IntKind.i64 t, SV.int IntKind.i64 s, SV.int IntKind.i64 x, SV.int IntKind.i64 h, SV.sl [CK.int IntKind.i64, CK.int IntKind.i64] S, SV.int IntKind.i64 n, SV.sl [CK.int IntKind.i64, CK.int IntKind.i64, CK.int IntKind.i64, CK.int IntKind.i64, CK.int IntKind.i64, CK.int IntKind.i64] T, SV.int IntKind.i64 y]]) = true) → ((true = true) ∧ (True))) ∧ (((!smB [SV.agg [SV.int IntKind.i64 p, SV.int IntKind.i64 c, SV.int IntKind.i64 t, SV.int IntKind.i64 s, SV.int IntKind.i64 x, SV.int IntKind.i64 h, SV.sl [CK.int IntKind.i64, CK.int IntKind.i64] S, SV.int IntKind.i64 n, SV.sl [CK.int IntKind.i64, CK.int IntKind.i64, CK.int IntKind.i64, CK.int IntKind.i64, CK.int IntKind.i64, CK.int IntKind.i64] T, SV.int IntKind.i64 y]]) = false) → (Ob (((S.length ≤ (9000000000000000000 : Nat)) ∧ ((T.length ≤ (9000000000000000000 : Nat)) ∧ (in64 m)))) ∧ (Ob (((S.length ≤ (1000000000 : Nat)) ∧ (T.length ≤ (1000000000 : Nat)))) ∧ ((decide (chkY p c t s x h S n T y m = chkY p c t s x h S n T y m) = true) ∧ (True)))))))))) := by kernel_rfl
theorem lright_known : Known Try.prog 30 lrightC := by
  refine known1 (nt := 18) (An := fun l => (right_an l)) (labs := []) (lit := false) (em := em_lright) sh_lright_le (by kernel_rfl) mixedT tyT_ok .nil Try.func30 (by kernel_rfl) (fun a => by kernel_rfl) (fun a => by rfl) (fun l ha => ?_)
  replace ha : l.length ≤ 9000000000000000000 := ha.out
  refine ⟨_, vc_lright l, ?_⟩
  refine ⟨⟨0, rfl, rfl, rfl, ⟨by omega, ha, rfl⟩, trivial, trivial⟩, fun i hi => ⟨fun h1 => ⟨⟨by omega, by simpa using h1⟩, fun h2 => ⟨?_, trivial⟩, fun h2 => ⟨fun h3 => ⟨?_, trivial⟩, fun h3 => ⟨i + 1, rfl, rfl, ?_, ⟨?_, ha, ?_⟩, ?_, trivial⟩⟩⟩, fun h1 => ⟨?_, trivial⟩⟩⟩
  all_goals simp only [decide_eq_true_eq, decide_eq_false_iff_not] at *
  · have hl : i < (ints l).length := by rw [ints_length]; omega
    rw [ints_get l i (by omega)] at h2
    exact all_of rightB _ 0 i hl (rightB_no.2 (by omega))
  · have hl : i < (ints l).length := by rw [ints_length]; omega
    rw [ints_get l i (by omega)] at h3
    exact all_of rightB _ 0 i hl (rightB_no.2 (by omega))
  · rw [wrapI (by omega)]; rfl
  · omega
  · have hl : i < (ints l).length := by rw [ints_length]; omega
    rw [ints_get l i (by omega)] at h2 h3
    rw [all_take rightB _ 0 i hl, hi.2.2, rightB_iff.2 (by omega)]; rfl
  · omega
  · have := hi.2.2
    rw [List.take_of_length_le (by rw [ints_length]; omega)] at this
    exact this

theorem smN_no {L : List SV} {i : Nat} (h : smN L i = false) : ∀ n, i ≤ n → smN L n = false
  | 0, hn => by rw [Nat.le_zero.1 hn] at h; exact h
  | n + 1, hn => by
    rcases Nat.lt_or_ge i (n + 1) with h1 | h1
    · simp only [smN]; rw [smN_no h n (by omega)]; rfl
    · rw [show n + 1 = i by omega]; exact h
theorem smN_get {L : List SV} : ∀ {n i : Nat}, smN L n = true → i < n → (slS L i).length ≤ 30 ∧ (slT L i).length ≤ 30
  | 0, i, _, h => by omega
  | n + 1, i, hs, h => by
    simp only [smN, Bool.and_eq_true, decide_eq_true_eq] at hs
    rcases Nat.lt_or_ge i n with h1 | h1
    · exact smN_get hs.1 h1
    · rw [show i = n by omega]; exact hs.2
theorem lsmall_known : Known Try.prog 8 lsmallC := by
  refine known1 (nt := 25) (An := fun L => (sm_an L)) (labs := []) (lit := false) (em := em_lsmall) sh_lsmall_le (by kernel_rfl) mixedT tyT_ok .nil Try.func8 (by kernel_rfl) (fun a => by kernel_rfl) (fun a => by rfl) (fun L ha => ?_)
  replace ha : L.length ≤ 9223372036854775807 := ha.out
  refine ⟨_, vc_lsmall L, ?_⟩
  simp only [Int.reduceLE, Int.reduceLT, Int.reduceEq, Int.reduceNe, Nat.reduceLeDiff, Nat.reduceEqDiff, beq_eq_false_iff_ne, beq_iff_eq, decide_eq_decide, ne_eq, eq_self, true_and, and_true, and_self, and_false, false_and, Bool.not_true, Bool.not_false, Bool.false_eq_true, Bool.true_eq_false, false_implies, true_implies, implies_true, imp_false, not_true, not_false_eq_true, decide_eq_true_eq, decide_eq_false_iff_not, Bool.not_eq_true', Bool.not_eq_false', Bool.and_eq_true, Classical.not_not, decide_true, decide_false, Bool.and_true, Bool.true_and, if_true, if_false, Ob_iff]
  simp only [slS_eq, slT_eq]
  have no : ∀ i, i < L.length → ¬ ((slS L i).length ≤ 30 ∧ (slT L i).length ≤ 30) → smB L = false := fun i hi hn => by
    have : smN L L.length = false := smN_no (i := i + 1) (by
      simp only [smN]
      cases h : (smN L i && (decide ((slS L i).length ≤ 30) && decide ((slT L i).length ≤ 30))) with
      | false => rfl
      | true =>
        simp only [Bool.and_eq_true, decide_eq_true_eq] at h
        exact absurd h.2 hn) _ (by omega)
    unfold smB; rw [this]; rfl
  refine ⟨⟨0, rfl, by omega, ha, rfl⟩, fun i hi => ⟨fun hlt => ⟨by omega, fun g => no i (by omega) (by omega), fun g1 => ⟨fun g => no i (by omega) (by omega), fun g2 => ⟨i + 1, by rw [wrapI (by omega)]; omega, ⟨by omega, ha, ?_⟩, by omega⟩⟩⟩, fun hge => ?_⟩⟩
  · simp only [smN, hi.2.2, Bool.true_and, Bool.and_eq_true, decide_eq_true_eq]; omega
  · have e : i = L.length := by omega
    subst e
    unfold smB
    rw [hi.2.2, Bool.true_and]
    exact decide_eq_decide.2 (by omega)

theorem rightL2 (a b : Int) : rightL [.int .i64 a, .int .i64 b] = (rightB a && rightB b) := by simp [rightL, ints, elCell, SV.cells, SV.toInt, List.range, List.range.loop]
theorem rightL1 (a : Int) : rightL [.int .i64 a] = rightB a := by simp [rightL, ints, elCell, SV.cells, SV.toInt]
theorem rightL7 (c t s x h n y : Int) : rightL [.int .i64 c, .int .i64 t, .int .i64 s, .int .i64 x, .int .i64 h, .int .i64 n, .int .i64 y] = r7 c t s x h n y := by
  simp [rightL, ints, elCell, SV.cells, SV.toInt, List.range, List.range.loop, r7, r3, Bool.and_assoc]
theorem wrapR {a b : Int} (ha : rightB a = true) (hb : rightB b = true) : IntKind.i64.wrap (a + b) = a + b := by
  have := rightB_iff.1 ha
  have := rightB_iff.1 hb
  exact wrapI (by omega)
theorem lwrong_known : Known Try.prog 10 lwrongC := by
  refine known1 (nt := 127) (An := fun (p, c, t, s, x, h, S, n, T, y, m) => (wr_an p c t s x h S n T y m)) (labs := []) (lit := false) (em := em_lwrong) sh_lwrong_le (by kernel_rfl) mixedT tyT_ok (.cons lright_known .nil) Try.func10 (by kernel_rfl) (fun a => by obtain ⟨p, c, t, s, x, h, S, n, T, y, m⟩ := a; kernel_rfl) (fun a => by obtain ⟨p, c, t, s, x, h, S, n, T, y, m⟩ := a; rfl) (fun a ha => ?_)
  obtain ⟨p, c, t, s, x, h, S, n, T, y, m⟩ := a
  replace ha : S.length ≤ 1000000000 ∧ T.length ≤ 1000000000 := ha.out
  refine ⟨_, vc_lwrong p c t s x h S n T y m, ?_⟩
  simp only [Int.reduceLE, Int.reduceLT, Int.reduceEq, Int.reduceNe, Nat.reduceLeDiff, Nat.reduceEqDiff, beq_eq_false_iff_ne, beq_iff_eq, decide_eq_decide, ne_eq, eq_self, true_and, and_true, and_self, and_false, false_and, Bool.not_true, Bool.not_false, Bool.false_eq_true, Bool.true_eq_false, false_implies, true_implies, implies_true, imp_false, not_true, not_false_eq_true, decide_eq_true_eq, decide_eq_false_iff_not, Bool.not_eq_true', Bool.not_eq_false', Bool.and_eq_true, Classical.not_not, decide_true, decide_false, Bool.and_true, Bool.true_and, if_true, if_false, Ob_iff]
  simp only [cl_eq, rightL2, rightL1, rightL7]
  have E10 : ¬ (p < 1 ∨ 53 < p) → (S.length : Int) = m → totB S S.length = false → 10 = chkY p c t s x h S n T y m := fun h1 h2 h3 => by
    unfold chkY; rw [if_neg h1, if_neg (by omega), if_pos h3]
  have F10 : ¬ (p < 1 ∨ 53 < p) → (S.length : Int) = m → totB S S.length = true → r7 c t s x h n y = true → takB T T.length = false → 10 = chkY p c t s x h S n T y m := fun h1 h2 h3 h4 h5 => by
    unfold r7 at h4
    rw [Bool.and_eq_true] at h4
    unfold chkY; rw [if_neg h1, if_neg (by omega), if_neg (by rw [h3]; decide), if_neg (by rw [h4.1, h4.2]; decide), if_pos h5]
  refine ⟨fun g => by unfold chkY; rw [if_pos (.inl g)], fun g1 => ⟨fun g => by unfold chkY; rw [if_pos (.inr g)], fun g2 => ⟨fun g => by unfold chkY; rw [if_neg (by omega), if_pos g], fun g3 => ⟨⟨0, rfl, rfl, rfl, by omega, by omega, g3, rfl⟩, fun i hi => ⟨fun hlt => ⟨by omega, fun g => ?_, fun g4 => ⟨fun g => ?_, fun g5 => ?_⟩⟩, fun hge => ⟨fun g => ?_, fun g6 => ⟨⟨0, by rw [show i = S.length by omega], rfl, rfl, by omega, by omega, g3, by rw [← hi.2.2.2]; congr 1; omega, g6, rfl⟩, fun j hj => ⟨fun hjl => ⟨by omega, fun g => ?_, fun g7 => ⟨fun g => ?_, fun g8 => ?_⟩⟩, fun hjg => ?_⟩⟩⟩⟩⟩⟩⟩⟩
  · refine E10 (by omega) g3 (totB_no (i := i + 1) ?_ _ (by omega))
    cases hq : totB S (i + 1) with
    | false => rfl
    | true =>
      simp only [totB, Bool.and_eq_true, addB_iff] at hq
      rw [hq.2.1.1.2, hq.2.2.1.2] at g; cases g
  · rw [Bool.and_eq_true] at g4
    have c0 := colS_right hi.2.2.2
    rw [wrapR c0.1 g4.1, wrapR c0.2 g4.2] at g
    refine E10 (by omega) g3 (totB_no (i := i + 1) ?_ _ (by omega))
    cases hq : totB S (i + 1) with
    | false => rfl
    | true =>
      simp only [totB, Bool.and_eq_true, addB_iff] at hq
      rw [hq.2.1.2, hq.2.2.2] at g; cases g
  · rw [Bool.and_eq_true] at g4
    have c0 := colS_right hi.2.2.2
    rw [wrapR c0.1 g4.1, wrapR c0.2 g4.2, Bool.and_eq_true] at g5
    rw [wrapR c0.1 g4.1, wrapR c0.2 g4.2]
    refine ⟨i + 1, rfl, rfl, by rw [wrapI (by omega)]; omega, ⟨by omega, by omega, g3, ?_⟩, by omega⟩
    simp only [totB, Bool.and_eq_true, addB_iff]
    exact ⟨hi.2.2.2, ⟨⟨c0.1, g4.1⟩, g5.1⟩, ⟨c0.2, g4.2⟩, g5.2⟩
  · have e : i = S.length := by omega
    subst e
    unfold chkY; rw [if_neg (by omega), if_neg (by omega), if_neg (by rw [hi.2.2.2]; decide)]
    unfold r7 at g
    rw [if_pos (by rcases (Bool.and_eq_false_iff.1 g) with q | q; exact .inl q; exact .inr q)]
  · refine F10 (by omega) g3 hj.2.2.2.1 g6 (takB_no (i := j + 1) ?_ _ (by omega))
    cases hq : takB T (j + 1) with
    | false => rfl
    | true =>
      simp only [takB, Bool.and_eq_true, addB_iff] at hq
      rw [hq.2.1.2] at g; cases g
  · have c0 := colT_right hj.2.2.2.2.2
    rw [wrapR c0 g7] at g
    refine F10 (by omega) g3 hj.2.2.2.1 g6 (takB_no (i := j + 1) ?_ _ (by omega))
    cases hq : takB T (j + 1) with
    | false => rfl
    | true =>
      simp only [takB, Bool.and_eq_true, addB_iff] at hq
      rw [hq.2.2] at g; cases g
  · have c0 := colT_right hj.2.2.2.2.2
    rw [wrapR c0 g7] at g8 ⊢
    refine ⟨j + 1, rfl, by rw [wrapI (by omega)]; omega, ⟨by omega, by omega, g3, hj.2.2.2.1, g6, ?_⟩, by omega⟩
    simp only [takB, Bool.and_eq_true, addB_iff]
    exact ⟨hj.2.2.2.2.2, ⟨c0, g7⟩, g8⟩
  · have e : j = T.length := by omega
    subst e
    have c1 := rightB_iff.1 (colS_right hj.2.2.2.1).1
    have c2 := rightB_iff.1 (colT_right hj.2.2.2.2.2)
    have q := g6
    unfold r7 at q
    simp only [r3, Bool.and_eq_true, rightB_iff] at q
    rw [wrapI (n := c - x) (by omega), wrapI (n := c - x - colS S 0 S.length) (by omega), wrapI (n := n - colS T 4 T.length) (by omega)]
    have q6 := g6
    unfold r7 at q6
    rw [Bool.and_eq_true] at q6
    unfold chkY; rw [if_neg (by omega), if_neg (by omega), if_neg (by rw [hj.2.2.2.1]; decide), if_neg (by rw [q6.1, q6.2]; decide), if_neg (by rw [hj.2.2.2.2.2]; decide)]
    refine ⟨fun g => by rw [if_pos (.inl g)], fun h8 => ⟨fun g => by rw [if_pos (.inr g)], fun h9 => by rw [if_neg (by omega)]⟩⟩

theorem lychecks_known : Known Try.prog 3 lychecksC := by
  refine known1 (nt := 18) (An := fun (p, c, t, s, x, h, S, n, T, y, m) => noAnn) (labs := []) (lit := false) (em := em_lychecks) sh_lychecks_le (by kernel_rfl) mixedT tyT_ok (.cons ykeeps_known (.cons lsmall_known (.cons ycheck_known (.cons lwrong_known .nil)))) Try.func3 (by kernel_rfl) (fun a => by obtain ⟨p, c, t, s, x, h, S, n, T, y, m⟩ := a; kernel_rfl) (fun a => by obtain ⟨p, c, t, s, x, h, S, n, T, y, m⟩ := a; rfl) (fun a ha => ?_)
  obtain ⟨p, c, t, s, x, h, S, n, T, y, m⟩ := a
  replace ha : in64 p ∧ in64 c ∧ in64 t ∧ in64 s ∧ in64 x ∧ in64 h ∧ wfL [.int .i64, .int .i64] S ∧ in64 n ∧ wfL [.int .i64, .int .i64, .int .i64, .int .i64, .int .i64, .int .i64] T ∧ in64 y ∧ in64 m := ha.out
  refine ⟨_, vc_lychecks p c t s x h S n T y m, ?_⟩
  simp only [Int.reduceLE, Int.reduceLT, Int.reduceEq, Int.reduceNe, Nat.reduceLeDiff, Nat.reduceEqDiff, beq_eq_false_iff_ne, beq_iff_eq, decide_eq_decide, ne_eq, eq_self, true_and, and_true, and_self, and_false, false_and, Bool.not_true, Bool.not_false, Bool.false_eq_true, Bool.true_eq_false, false_implies, true_implies, implies_true, imp_false, not_true, not_false_eq_true, decide_eq_true_eq, decide_eq_false_iff_not, Bool.not_eq_true', Bool.not_eq_false', Bool.and_eq_true, Classical.not_not, decide_true, decide_false, Bool.and_true, Bool.true_and, if_true, if_false, Ob_iff]
  intro h
  have h2 : (S.length ≤ 30 ∧ T.length ≤ 30) := by
    unfold smB at h
    rw [Bool.and_eq_true] at h
    exact smN_get (i := 0) h.1 (by simp)
  exact ⟨⟨by omega, by omega, ha.2.2.2.2.2.2.2.2.2.2⟩, by omega, by omega⟩

end Go.Rx

