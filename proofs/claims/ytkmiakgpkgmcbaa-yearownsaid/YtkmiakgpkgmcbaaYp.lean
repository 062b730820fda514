/- A year: payslip by payslip. -/
import Derived.Test.YtkmiakgpkgmcbaaYw
namespace Go.Rx
open Go.Proofs
set_option linter.unusedSimpArgs false
set_option linter.unusedVariables false

def shG (A S : List SV) : Nat → Bool
  | 0 => true
  | i + 1 => shG A S i && (rightB (cl A i 0 + cl S i 0) && rightB (cl A i 1 + cl S i 1))
def goodB (c t s x : Int) (A : List SV) (n k y c' t' s' x' : Int) (S : List SV) (n' : Int) (T : List SV) (y' : Int) : Bool :=
  r7 (c + c') (t + t') (s + s') (x + x') (n + n') (k + colS T 4 T.length) (y + y') && shG A S S.length
def plR (A S : List SV) (i : Nat) : List SV := mkR i (fun j => cl A j 0 + cl S j 0) (fun j => cl A j 1 + cl S j 1)
/-- Totals whose amounts may be. -/
def totOK (c t s x n k y : Int) (A : List SV) : Prop := (rightB c = true ∧ rightB t = true ∧ rightB s = true ∧ rightB x = true ∧ rightB n = true ∧ rightB k = true ∧ rightB y = true) ∧ ∀ i, i < A.length → rightB (cl A i 0) = true ∧ rightB (cl A i 1) = true
def totC (c t s x h : Int) (A : List SV) (n k y : Int) : List SV := [.int .i64 c, .int .i64 t, .int .i64 s, .int .i64 x, .int .i64 h, .sl shK A, .int .i64 n, .int .i64 k, .int .i64 y]
def su_an (c t s x h : Int) (A : List SV) (n k y p' c' t' s' x' h' : Int) (S : List SV) (n' : Int) (T : List SV) (y' : Int) : Nat → Option Ann
  | 0 => some ⟨Nat, fun i => ⟨[(2, .ptr 2 0), (3, .ptr 3 0), (4, .ptr 4 0), (6, .ptr 6 0), (56, .sl tkK T), (57, .int .i64 T.length), (58, .int .i64 i)], [(2, .box 39 (totC c t s x h A n k y)), (3, .box 27 (slC p' c' t' s' x' h' S n' T y')), (4, .box 39 [.int .i64 0, .int .i64 0, .int .i64 0, .int .i64 0, .int .i64 0, .nilsl, .int .i64 0, .int .i64 0, .int .i64 0]), (6, .box 39 [.int .i64 (c + c'), .int .i64 (t + t'), .int .i64 (s + s'), .int .i64 (x + x'), .int .i64 h', .nilsl, .int .i64 (n + n'), .int .i64 (k + colS T 4 i), .int .i64 (y + y')])]⟩, fun i => i ≤ T.length, fun i => T.length - i, [2, 3, 4, 6, 56, 57, 58], [2, 3, 4, 6], [], fun _ _ => none⟩
  | 2 => some ⟨Nat, fun i => ⟨[(2, .ptr 2 0), (4, .ptr 4 0), (6, .ptr 6 0), (9, .bool (r7 (c + c') (t + t') (s + s') (x + x') (n + n') (k + colS T 4 T.length) (y + y') && shG A S i)), (89, .sl shK S), (90, .int .i64 S.length), (91, .int .i64 i)], [(2, .box 39 (totC c t s x h A n k y)), (4, .box 39 [.int .i64 0, .int .i64 0, .int .i64 0, .int .i64 0, .int .i64 0, .nilsl, .int .i64 0, .int .i64 0, .int .i64 0]), (6, .box 39 [.int .i64 (c + c'), .int .i64 (t + t'), .int .i64 (s + s'), .int .i64 (x + x'), .int .i64 h', .osl 119 0, .int .i64 (n + n'), .int .i64 (k + colS T 4 T.length), .int .i64 (y + y')]), (119, .row 0 54 shK (plR A S i))]⟩, fun i => i ≤ S.length, fun i => S.length - i, [2, 4, 6, 9, 89, 90, 91], [2, 4, 6, 119], [(100605, 119, 54, shK)], fun _ _ => none⟩
  | _ => none
def gsel (g : Bool) (x y : Int) : Int := if g = true then x else y

def sh_lsum : List SV → Option (Int × Int × Int × Int × Int × (List SV) × Int × Int × Int × Int × Int × Int × Int × Int × Int × (List SV) × Int × (List SV) × Int)
  | [.agg [.int .i64 c, .int .i64 t, .int .i64 s, .int .i64 x, .int .i64 h, A', .int .i64 n, .int .i64 k, .int .i64 y], .agg [.int .i64 p', .int .i64 c', .int .i64 t', .int .i64 s', .int .i64 x', .int .i64 h', S', .int .i64 n', T', .int .i64 y']] => (match slOf [.int .i64, .int .i64] A' with | some A => (match slOf [.int .i64, .int .i64] S' with | some S => (match slOf [.int .i64, .int .i64, .int .i64, .int .i64, .int .i64, .int .i64] T' with | some T => some (c, t, s, x, h, A, n, k, y, p', c', t', s', x', h', S, n', T, y') | _ => none) | _ => none) | _ => none)
  | _ => none
def em_lsum : Int × Int × Int × Int × Int × (List SV) × Int × Int × Int × Int × Int × Int × Int × Int × Int × (List SV) × Int × (List SV) × Int → List SV := fun (c, t, s, x, h, A, n, k, y, p', c', t', s', x', h', S, n', T, y') => [.agg [.int .i64 c, .int .i64 t, .int .i64 s, .int .i64 x, .int .i64 h, .sl [.int .i64, .int .i64] A, .int .i64 n, .int .i64 k, .int .i64 y], .agg [.int .i64 p', .int .i64 c', .int .i64 t', .int .i64 s', .int .i64 x', .int .i64 h', .sl [.int .i64, .int .i64] S, .int .i64 n', .sl [.int .i64, .int .i64, .int .i64, .int .i64, .int .i64, .int .i64] T, .int .i64 y']]
theorem sh_lsum_le : ∀ us a, sh_lsum us = some a → leL us (em_lsum a) := by
  intro us a h
  unfold sh_lsum at h
  split at h
  · split at h
    · split at h
      · split at h
        · cases h; exact (.cons (.agg (.cons (.refl _) (.cons (.refl _) (.cons (.refl _) (.cons (.refl _) (.cons (.refl _) (.cons (.sl (by assumption)) (.cons (.refl _) (.cons (.refl _) (.cons (.refl _) .nil)))))))))) (.cons (.agg (.cons (.refl _) (.cons (.refl _) (.cons (.refl _) (.cons (.refl _) (.cons (.refl _) (.cons (.refl _) (.cons (.sl (by assumption)) (.cons (.refl _) (.cons (.sl (by assumption)) (.cons (.refl _) .nil))))))))))) .nil))
        · cases h
      · cases h
    · cases h
  · cases h
def lsumC : Con := conOf sh_lsum (fun (c, t, s, x, h, A, n, k, y, p', c', t', s', x', h', S, n', T, y') => some (Ob (totOK c t s x n k y A ∧ chkY p' c' t' s' x' h' S n' T y' S.length = 0 ∧ A.length = S.length ∧ S.length ≤ 64 ∧ T.length ≤ 1000000000))) (fun (c, t, s, x, h, A, n, k, y, p', c', t', s', x', h', S, n', T, y') => .tup [.agg [.int .i64 (gsel (goodB c t s x A n k y c' t' s' x' S n' T y') (c + c') c), .int .i64 (gsel (goodB c t s x A n k y c' t' s' x' S n' T y') (t + t') t), .int .i64 (gsel (goodB c t s x A n k y c' t' s' x' S n' T y') (s + s') s), .int .i64 (gsel (goodB c t s x A n k y c' t' s' x' S n' T y') (x + x') x), .int .i64 (gsel (goodB c t s x A n k y c' t' s' x' S n' T y') h' h), .sl shK (if goodB c t s x A n k y c' t' s' x' S n' T y' = true then plR A S S.length else A), .int .i64 (gsel (goodB c t s x A n k y c' t' s' x' S n' T y') (n + n') n), .int .i64 (gsel (goodB c t s x A n k y c' t' s' x' S n' T y') (k + colS T 4 T.length) k), .int .i64 (gsel (goodB c t s x A n k y c' t' s' x' S n' T y') (y + y') y)], .int .i64 (chkE (goodB c t s x A n k y c' t' s' x' S n' T y'))])
set_option maxRecDepth 100000 in
theorem vc_lsum (c : Int) (t : Int) (s : Int) (x : Int) (h : Int) (A : List SV) (n : Int) (k : Int) (y : Int) (p' : Int) (c' : Int) (t' : Int) (s' : Int) (x' : Int) (h' : Int) (S : List SV) (n' : Int) (T : List SV) (y' : Int) : (wpF ⟨135, tyT, [(30, lrightC)], false, 0, [], false⟩ ((su_an c t s x h A n k y p' c' t' s' x' h' S n' T y')) [] Try.f12 (em_lsum (c, t, s, x, h, A, n, k, y, p', c', t', s', x', h', S, n', T, y')) (.tup [.agg [.int .i64 (gsel (goodB c t s x A n k y c' t' s' x' S n' T y') (c + c') c), .int .i64 (gsel (goodB c t s x A n k y c' t' s' x' S n' T y') (t + t') t), .int .i64 (gsel (goodB c t s x A n k y c' t' s' x' S n' T y') (s + s') s), .int .i64 (gsel (goodB c t s x A n k y c' t' s' x' S n' T y') (x + x') x), .int .i64 (gsel (goodB c t s x A n k y c' t' s' x' S n' T y') h' h), .sl shK (if goodB c t s x A n k y c' t' s' x' S n' T y' = true then plR A S S.length else A), .int .i64 (gsel (goodB c t s x A n k y c' t' s' x' S n' T y') (n + n') n), .int .i64 (gsel (goodB c t s x A n k y c' t' s' x' S n' T y') (k + colS T 4 T.length) k), .int .i64 (gsel (goodB c t s x A n k y c' t' s' x' S n' T y') (y + y') y)], .int .i64 (chkE (goodB c t s x A n k y c' t' s' x' S n' T y'))])) = (((∃ (x1 : Nat), ((T = T) ∧ (((↑T.length : Int) = (↑T.length : Int)) ∧ (((0 : Int) = (↑x1 : Int)) ∧ ((c = c) ∧ ((t = t) ∧ ((s = s) ∧ ((x = x) ∧ ((h = h) ∧ ((A = A) ∧ ((n = n) ∧ ((k = k) ∧ ((y = y) ∧ ((p' = p') ∧ ((c' = c') ∧ ((t' = t') ∧ ((s' = s') ∧ ((x' = x') ∧ ((h' = h') ∧ ((S = S) ∧ ((n' = n') ∧ ((T = T) ∧ ((y' = y') ∧ (((0 : Int) = (0 : Int)) ∧ (((0 : Int) = (0 : Int)) ∧ (((0 : Int) = (0 : Int)) ∧ (((0 : Int) = (0 : Int)) ∧ (((0 : Int) = (0 : Int)) ∧ (((0 : Int) = (0 : Int)) ∧ (((0 : Int) = (0 : Int)) ∧ (((0 : Int) = (0 : Int)) ∧ ((IntKind.i64.wrap (c + c') = c + c') ∧ ((IntKind.i64.wrap (t + t') = t + t') ∧ ((IntKind.i64.wrap (s + s') = s + s') ∧ ((IntKind.i64.wrap (x + x') = x + x') ∧ ((h' = h') ∧ ((IntKind.i64.wrap (n + n') = n + n') ∧ ((k = k + colS T (4 : Nat) x1) ∧ ((IntKind.i64.wrap (y + y') = y + y') ∧ ((x1 ≤ T.length) ∧ ((True) ∧ (True)))))))))))))))))))))))))))))))))))))))))) ∧ (∀ (x2 : Nat), ((x2 ≤ T.length) → (((decide ((↑x2 : Int) < (↑T.length : Int)) = true) → (Ob ((((0 : Int) ≤ (↑x2 : Int)) ∧ ((↑x2 : Int) < (↑T.length : Int)))) ∧ (∃ (x3 : Nat), ((T = T) ∧ (((↑T.length : Int) = (↑T.length : Int)) ∧ ((IntKind.i64.wrap ((↑x2 : Int) + (1 : Int)) = (↑x3 : Int)) ∧ ((c = c) ∧ ((t = t) ∧ ((s = s) ∧ ((x = x) ∧ ((h = h) ∧ ((A = A) ∧ ((n = n) ∧ ((k = k) ∧ ((y = y) ∧ ((p' = p') ∧ ((c' = c') ∧ ((t' = t') ∧ ((s' = s') ∧ ((x' = x') ∧ ((h' = h') ∧ ((S = S) ∧ ((n' = n') ∧ ((T = T) ∧ ((y' = y') ∧ (((0 : Int) = (0 : Int)) ∧ (((0 : Int) = (0 : Int)) ∧ (((0 : Int) = (0 : Int)) ∧ (((0 : Int) = (0 : Int)) ∧ (((0 : Int) = (0 : Int)) ∧ (((0 : Int) = (0 : Int)) ∧ (((0 : Int) = (0 : Int)) ∧ (((0 : Int) = (0 : Int)) ∧ ((c + c' = c + c') ∧ ((t + t' = t + t') ∧ ((s + s' = s + s') ∧ ((x + x' = x + x') ∧ ((h' = h') ∧ ((n + n' = n + n') ∧ ((IntKind.i64.wrap (k + colS T (4 : Nat) x2 + (elCell T x2 (4 : Nat)).toInt) = k + colS T (4 : Nat) x3) ∧ ((y + y' = y + y') ∧ ((x3 ≤ T.length) ∧ ((T.length - x3 < T.length - x2) ∧ (True)))))))))))))))))))))))))))))))))))))))))))) ∧ ((decide ((↑x2 : Int) < (↑T.length : Int)) = false) → (Ob (((7 : Nat) ≤ (9000000000000000000 : Nat))) ∧ ((∃ (x4 : Nat), ((rightL [SV.int IntKind.i64 (c + c'), SV.int IntKind.i64 (t + t'), SV.int IntKind.i64 (s + s'), SV.int IntKind.i64 (x + x'), SV.int IntKind.i64 (n + n'), SV.int IntKind.i64 (k + colS T (4 : Nat) x2), SV.int IntKind.i64 (y + y')] = (r7 (c + c') (t + t') (s + s') (x + x') (n + n') (k + colS T (4 : Nat) T.length) (y + y') && shG A S x4)) ∧ ((S = S) ∧ (((↑S.length : Int) = (↑S.length : Int)) ∧ (((0 : Int) = (↑x4 : Int)) ∧ ((c = c) ∧ ((t = t) ∧ ((s = s) ∧ ((x = x) ∧ ((h = h) ∧ ((A = A) ∧ ((n = n) ∧ ((k = k) ∧ ((y = y) ∧ (((0 : Int) = (0 : Int)) ∧ (((0 : Int) = (0 : Int)) ∧ (((0 : Int) = (0 : Int)) ∧ (((0 : Int) = (0 : Int)) ∧ (((0 : Int) = (0 : Int)) ∧ (((0 : Int) = (0 : Int)) ∧ (((0 : Int) = (0 : Int)) ∧ (((0 : Int) = (0 : Int)) ∧ ((c + c' = c + c') ∧ ((t + t' = t + t') ∧ ((s + s' = s + s') ∧ ((x + x' = x + x') ∧ ((h' = h') ∧ ((n + n' = n + n') ∧ ((k + colS T (4 : Nat) x2 = k + colS T (4 : Nat) T.length) ∧ ((y + y' = y + y') ∧ (([] = plR A S x4) ∧ ((x4 ≤ S.length) ∧ ((True) ∧ (True)))))))))))))))))))))))))))))))))) ∧ (∀ (x5 : Nat), ((x5 ≤ S.length) → (((decide ((↑x5 : Int) < (↑S.length : Int)) = true) → (Ob ((((0 : Int) ≤ (↑x5 : Int)) ∧ ((↑x5 : Int) < (↑S.length : Int)))) ∧ (Ob ((((0 : Int) ≤ (↑x5 : Int)) ∧ ((↑x5 : Int) < (↑A.length : Int)))) ∧ (Ob ((((0 : Int) ≤ (↑x5 : Int)) ∧ ((↑x5 : Int) < (↑A.length : Int)))) ∧ (Ob (((((plR A S x5).length + (1 : Nat)) * (16 : Nat) ≤ (1099511627776 : Nat)) ∧ ((plR A S x5).length + (1 : Nat) ≤ (1099511627776 : Nat)))) ∧ ((((r7 (c + c') (t + t') (s + s') (x + x') (n + n') (k + colS T (4 : Nat) T.length) (y + y') && shG A S x5) = true) → (Ob (((2 : Nat) ≤ (9000000000000000000 : Nat))) ∧ (∃ (x6 : Nat), ((rightL [SV.int IntKind.i64 (IntKind.i64.wrap ((elCell A x5 (0 : Nat)).toInt + (elCell S x5 (0 : Nat)).toInt)), SV.int IntKind.i64 (IntKind.i64.wrap ((elCell A x5 (1 : Nat)).toInt + (elCell S x5 (1 : Nat)).toInt))] = (r7 (c + c') (t + t') (s + s') (x + x') (n + n') (k + colS T (4 : Nat) T.length) (y + y') && shG A S x6)) ∧ ((S = S) ∧ (((↑S.length : Int) = (↑S.length : Int)) ∧ ((IntKind.i64.wrap ((↑x5 : Int) + (1 : Int)) = (↑x6 : Int)) ∧ ((c = c) ∧ ((t = t) ∧ ((s = s) ∧ ((x = x) ∧ ((h = h) ∧ ((A = A) ∧ ((n = n) ∧ ((k = k) ∧ ((y = y) ∧ (((0 : Int) = (0 : Int)) ∧ (((0 : Int) = (0 : Int)) ∧ (((0 : Int) = (0 : Int)) ∧ (((0 : Int) = (0 : Int)) ∧ (((0 : Int) = (0 : Int)) ∧ (((0 : Int) = (0 : Int)) ∧ (((0 : Int) = (0 : Int)) ∧ (((0 : Int) = (0 : Int)) ∧ ((c + c' = c + c') ∧ ((t + t' = t + t') ∧ ((s + s' = s + s') ∧ ((x + x' = x + x') ∧ ((h' = h') ∧ ((n + n' = n + n') ∧ ((k + colS T (4 : Nat) T.length = k + colS T (4 : Nat) T.length) ∧ ((y + y' = y + y') ∧ ((plR A S x5 ++ [SV.agg [SV.int IntKind.i64 (IntKind.i64.wrap ((elCell A x5 (0 : Nat)).toInt + (elCell S x5 (0 : Nat)).toInt)), SV.int IntKind.i64 (IntKind.i64.wrap ((elCell A x5 (1 : Nat)).toInt + (elCell S x5 (1 : Nat)).toInt))]] = plR A S x6) ∧ ((x6 ≤ S.length) ∧ ((S.length - x6 < S.length - x5) ∧ (True)))))))))))))))))))))))))))))))))))) ∧ (((r7 (c + c') (t + t') (s + s') (x + x') (n + n') (k + colS T (4 : Nat) T.length) (y + y') && shG A S x5) = false) → (∃ (x7 : Nat), (((r7 (c + c') (t + t') (s + s') (x + x') (n + n') (k + colS T (4 : Nat) T.length) (y + y') && shG A S x7) = false) ∧ ((S = S) ∧ (((↑S.length : Int) = (↑S.length : Int)) ∧ ((IntKind.i64.wrap ((↑x5 : Int) + (1 : Int)) = (↑x7 : Int)) ∧ ((c = c) ∧ ((t = t) ∧ ((s = s) ∧ ((x = x) ∧ ((h = h) ∧ ((A = A) ∧ ((n = n) ∧ ((k = k) ∧ ((y = y) ∧ (((0 : Int) = (0 : Int)) ∧ (((0 : Int) = (0 : Int)) ∧ (((0 : Int) = (0 : Int)) ∧ (((0 : Int) = (0 : Int)) ∧ (((0 : Int) = (0 : Int)) ∧ (((0 : Int) = (0 : Int)) ∧ (((0 : Int) = (0 : Int)) ∧ (((0 : Int) = (0 : Int)) ∧ ((c + c' = c + c') ∧ ((t + t' = t + t') ∧ ((s + s' = s + s') ∧ ((x + x' = x + x') ∧ ((h' = h') ∧ ((n + n' = n + n') ∧ ((k + colS T (4 : Nat) T.length = k + colS T (4 : Nat) T.length) ∧ ((y + y' = y + y') ∧ ((plR A S x5 ++ [SV.agg [SV.int IntKind.i64 (IntKind.i64.wrap ((elCell A x5 (0 : Nat)).toInt + (elCell S x5 (0 : Nat)).toInt)), SV.int IntKind.i64 (IntKind.i64.wrap ((elCell A x5 (1 : Nat)).toInt + (elCell S x5 (1 : Nat)).toInt))]] = plR A S x7) ∧ ((x7 ≤ S.length) ∧ ((S.length - x7 < S.length - x5) ∧ (True))))))))))))))))))))))))))))))))))))))))) ∧ ((decide ((↑x5 : Int) < (↑S.length : Int)) = false) → ((((!(r7 (c + c') (t + t') (s + s') (x + x') (n + n') (k + colS T (4 : Nat) T.length) (y + y') && shG A S x5)) = true) → ((c = gsel (goodB c t s x A n k y c' t' s' x' S n' T y') (c + c') c) ∧ ((t = gsel (goodB c t s x A n k y c' t' s' x' S n' T y') (t + t') t) ∧ ((s = gsel (goodB c t s x A n k y c' t' s' x' S n' T y') (s + s') s) ∧ ((x = gsel (goodB c t s x A n k y c' t' s' x' S n' T y') (x + x') x) ∧ ((h = gsel (goodB c t s x A n k y c' t' s' x' S n' T y') h' h) ∧ ((A = if goodB c t s x A n k y c' t' s' x' S n' T y' = true then plR A S S.length else A) ∧ ((n = gsel (goodB c t s x A n k y c' t' s' x' S n' T y') (n + n') n) ∧ ((k = gsel (goodB c t s x A n k y c' t' s' x' S n' T y') (k + colS T (4 : Nat) T.length) k) ∧ ((y = gsel (goodB c t s x A n k y c' t' s' x' S n' T y') (y + y') y) ∧ (((10 : Int) = chkE (goodB c t s x A n k y c' t' s' x' S n' T y')) ∧ (True)))))))))))) ∧ (((!(r7 (c + c') (t + t') (s + s') (x + x') (n + n') (k + colS T (4 : Nat) T.length) (y + y') && shG A S x5)) = false) → ((c + c' = gsel (goodB c t s x A n k y c' t' s' x' S n' T y') (c + c') c) ∧ ((t + t' = gsel (goodB c t s x A n k y c' t' s' x' S n' T y') (t + t') t) ∧ ((s + s' = gsel (goodB c t s x A n k y c' t' s' x' S n' T y') (s + s') s) ∧ ((x + x' = gsel (goodB c t s x A n k y c' t' s' x' S n' T y') (x + x') x) ∧ ((h' = gsel (goodB c t s x A n k y c' t' s' x' S n' T y') h' h) ∧ ((plR A S x5 = if goodB c t s x A n k y c' t' s' x' S n' T y' = true then plR A S S.length else A) ∧ ((n + n' = gsel (goodB c t s x A n k y c' t' s' x' S n' T y') (n + n') n) ∧ ((k + colS T (4 : Nat) T.length = gsel (goodB c t s x A n k y c' t' s' x' S n' T y') (k + colS T (4 : Nat) T.length) k) ∧ ((y + y' = gsel (goodB c t s x A n k y c' t' s' x' S n' T y') (y + y') y) ∧ (((0 : Int) = chkE (goodB c t s x A n k y c' t' s' x' S n' T y')) ∧ (True))))))))))))))))))))))))) := by kernel_rfl
def sh_lsame : List SV → Option (Int × Int × Int × Int × Int × Int × (List SV) × Int × (List SV) × Int × Int × Int × Int × Int × Int × Int × (List SV) × Int × (List SV) × Int)
  | [.agg [.int .i64 p, .int .i64 c, .int .i64 t, .int .i64 s, .int .i64 x, .int .i64 h, S', .int .i64 n, T', .int .i64 y], .agg [.int .i64 p', .int .i64 c', .int .i64 t', .int .i64 s', .int .i64 x', .int .i64 h', S'', .int .i64 n', T'', .int .i64 y']] => (match slOf [.int .i64, .int .i64] S' with | some S => (match slOf [.int .i64, .int .i64, .int .i64, .int .i64, .int .i64, .int .i64] T' with | some T => (match slOf [.int .i64, .int .i64] S'' with | some S' => (match slOf [.int .i64, .int .i64, .int .i64, .int .i64, .int .i64, .int .i64] T'' with | some T' => some (p, c, t, s, x, h, S, n, T, y, p', c', t', s', x', h', S', n', T', y') | _ => none) | _ => none) | _ => none) | _ => none)
  | _ => none
def em_lsame : Int × Int × Int × Int × Int × Int × (List SV) × Int × (List SV) × Int × Int × Int × Int × Int × Int × Int × (List SV) × Int × (List SV) × Int → List SV := fun (p, c, t, s, x, h, S, n, T, y, p', c', t', s', x', h', S', n', T', y') => [.agg [.int .i64 p, .int .i64 c, .int .i64 t, .int .i64 s, .int .i64 x, .int .i64 h, .sl [.int .i64, .int .i64] S, .int .i64 n, .sl [.int .i64, .int .i64, .int .i64, .int .i64, .int .i64, .int .i64] T, .int .i64 y], .agg [.int .i64 p', .int .i64 c', .int .i64 t', .int .i64 s', .int .i64 x', .int .i64 h', .sl [.int .i64, .int .i64] S', .int .i64 n', .sl [.int .i64, .int .i64, .int .i64, .int .i64, .int .i64, .int .i64] T', .int .i64 y']]
theorem sh_lsame_le : ∀ us a, sh_lsame us = some a → leL us (em_lsame a) := by
  intro us a h
  unfold sh_lsame at h
  split at h
  · split at h
    · split at h
      · split at h
        · split at h
          · cases h; exact (.cons (.agg (.cons (.refl _) (.cons (.refl _) (.cons (.refl _) (.cons (.refl _) (.cons (.refl _) (.cons (.refl _) (.cons (.sl (by assumption)) (.cons (.refl _) (.cons (.sl (by assumption)) (.cons (.refl _) .nil))))))))))) (.cons (.agg (.cons (.refl _) (.cons (.refl _) (.cons (.refl _) (.cons (.refl _) (.cons (.refl _) (.cons (.refl _) (.cons (.sl (by assumption)) (.cons (.refl _) (.cons (.sl (by assumption)) (.cons (.refl _) .nil))))))))))) .nil))
          · cases h
        · cases h
      · cases h
    · cases h
  · cases h
def lsameC : Con := conOf sh_lsame (fun (p, c, t, s, x, h, S, n, T, y, p', c', t', s', x', h', S', n', T', y') => some (Ob (S.length ≤ 1000000000 ∧ T.length ≤ 1000000000 ∧ S'.length ≤ 1000000000 ∧ T'.length ≤ 1000000000))) (fun (p, c, t, s, x, h, S, n, T, y, p', c', t', s', x', h', S', n', T', y') => .bool (decide (p = p') && ((decide (c = c') && (decide (t = t') && decide (s = s'))) && (decide (x = x') && (decide (h = h') && (eqS_ 2 S S' && (decide (n = n') && (eqS_ 6 T T' && decide (y = y')))))))))
set_option maxRecDepth 100000 in
theorem vc_lsame (p : Int) (c : Int) (t : Int) (s : Int) (x : Int) (h : Int) (S : List SV) (n : Int) (T : List SV) (y : Int) (p' : Int) (c' : Int) (t' : Int) (s' : Int) (x' : Int) (h' : Int) (S' : List SV) (n' : Int) (T' : List SV) (y' : Int) : (wpF ⟨59, tyT, [(35, eqShC), (36, eqTkC)], false, 0, [], false⟩ (noAnn) [] Try.f17 (em_lsame (p, c, t, s, x, h, S, n, T, y, p', c', t', s', x', h', S', n', T', y')) (.bool (decide (p = p') && ((decide (c = c') && (decide (t = t') && decide (s = s'))) && (decide (x = x') && (decide (h = h') && (eqS_ 2 S S' && (decide (n = n') && (eqS_ 6 T T' && decide (y = y')))))))))) = ((((decide (p = p') = true) → ((((decide (c = c') && (decide (t = t') && decide (s = s'))) = true) → (((decide (x = x') = true) → (((decide (h = h') = true) → (Ob (((S.length ≤ (1000000000 : Nat)) ∧ (S'.length ≤ (1000000000 : Nat)))) ∧ (((eqS_ (2 : Nat) S S' = true) → (((decide (n = n') = true) → (Ob (((T.length ≤ (1000000000 : Nat)) ∧ (T'.length ≤ (1000000000 : Nat)))) ∧ (((eqS_ (6 : Nat) T T' = true) → ((decide (y = y') = (decide (p = p') && (decide (c = c') && (decide (t = t') && decide (s = s')) && (decide (x = x') && (decide (h = h') && (eqS_ (2 : Nat) S S' && (decide (n = n') && (eqS_ (6 : Nat) T T' && decide (y = y'))))))))) ∧ (True))) ∧ ((eqS_ (6 : Nat) T T' = false) → (((decide (p = p') && (decide (c = c') && (decide (t = t') && decide (s = s')) && (decide (x = x') && (decide (h = h') && (eqS_ (2 : Nat) S S' && (decide (n = n') && (eqS_ (6 : Nat) T T' && decide (y = y')))))))) = false) ∧ (True)))))) ∧ ((decide (n = n') = false) → (((decide (p = p') && (decide (c = c') && (decide (t = t') && decide (s = s')) && (decide (x = x') && (decide (h = h') && (eqS_ (2 : Nat) S S' && (decide (n = n') && (eqS_ (6 : Nat) T T' && decide (y = y')))))))) = false) ∧ (True))))) ∧ ((eqS_ (2 : Nat) S S' = false) → (((decide (p = p') && (decide (c = c') && (decide (t = t') && decide (s = s')) && (decide (x = x') && (decide (h = h') && (eqS_ (2 : Nat) S S' && (decide (n = n') && (eqS_ (6 : Nat) T T' && decide (y = y')))))))) = false) ∧ (True)))))) ∧ ((decide (h = h') = false) → (((decide (p = p') && (decide (c = c') && (decide (t = t') && decide (s = s')) && (decide (x = x') && (decide (h = h') && (eqS_ (2 : Nat) S S' && (decide (n = n') && (eqS_ (6 : Nat) T T' && decide (y = y')))))))) = false) ∧ (True))))) ∧ ((decide (x = x') = false) → (((decide (p = p') && (decide (c = c') && (decide (t = t') && decide (s = s')) && (decide (x = x') && (decide (h = h') && (eqS_ (2 : Nat) S S' && (decide (n = n') && (eqS_ (6 : Nat) T T' && decide (y = y')))))))) = false) ∧ (True))))) ∧ (((decide (c = c') && (decide (t = t') && decide (s = s'))) = false) → (((decide (p = p') && (decide (c = c') && (decide (t = t') && decide (s = s')) && (decide (x = x') && (decide (h = h') && (eqS_ (2 : Nat) S S' && (decide (n = n') && (eqS_ (6 : Nat) T T' && decide (y = y')))))))) = false) ∧ (True))))) ∧ ((decide (p = p') = false) → (((decide (p = p') && (decide (c = c') && (decide (t = t') && decide (s = s')) && (decide (x = x') && (decide (h = h') && (eqS_ (2 : Nat) S S' && (decide (n = n') && (eqS_ (6 : Nat) T T' && decide (y = y')))))))) = false) ∧ (True))))) := by kernel_rfl
theorem takB_pre {T : List SV} {i n : Nat} (h : takB T n = true) (hi : i ≤ n) : takB T i = true := by
  cases hq : takB T i with
  | true => rfl
  | false => rw [takB_no hq n hi] at h; cases h
theorem totB_pre {T : List SV} {i n : Nat} (h : totB T n = true) (hi : i ≤ n) : totB T i = true := by
  cases hq : totB T i with
  | true => rfl
  | false => rw [totB_no hq n hi] at h; cases h
theorem tot_cl {S : List SV} {i n : Nat} (h : totB S n = true) (hi : i < n) : rightB (cl S i 0) = true ∧ rightB (cl S i 1) = true := by
  have := totB_pre h hi
  simp only [totB, Bool.and_eq_true, addB_iff] at this
  exact ⟨this.2.1.1.2, this.2.2.1.2⟩
theorem tak_cl {T : List SV} {i n : Nat} (h : takB T n = true) (hi : i < n) : rightB (cl T i 4) = true := by
  have := takB_pre h hi
  simp only [takB, Bool.and_eq_true, addB_iff] at this
  exact this.2.1.2
theorem chkY_zero {p c t s x h : Int} {S : List SV} {n : Int} {T : List SV} {y m : Int} (hc : chkY p c t s x h S n T y m = 0) : (1 ≤ p ∧ p ≤ 53) ∧ (S.length : Int) = m ∧ totB S S.length = true ∧ r7 c t s x h n y = true ∧ takB T T.length = true ∧ c - x - colS S 0 S.length = n ∧ n - colS T 4 T.length = y := by
  unfold chkY at hc
  split at hc
  · cases hc
  split at hc
  · cases hc
  split at hc
  · cases hc
  split at hc
  · cases hc
  split at hc
  · cases hc
  split at hc
  · cases hc
  rename_i h1 h2 h3 h4 h5 h6
  refine ⟨by omega, by omega, by simpa using h3, ?_, by simpa using h5, by omega, by omega⟩
  unfold r7
  rw [Bool.and_eq_true]
  have n1 : ¬ r3 c t s = false := fun q => h4 (.inl q)
  have n2 : ¬ (rightB x && (rightB h && (rightB n && rightB y))) = false := fun q => h4 (.inr q)
  exact ⟨by simpa using n1, by cases hq : (rightB x && (rightB h && (rightB n && rightB y))) with
    | true => rfl
    | false => exact absurd hq n2⟩
theorem plR_next (A S : List SV) (i : Nat) : plR A S i ++ [.agg [.int .i64 (cl A i 0 + cl S i 0), .int .i64 (cl A i 1 + cl S i 1)]] = plR A S (i + 1) := by
  unfold plR mkR
  rw [List.range_succ, List.map_append]; rfl
theorem shG_no {A S : List SV} {i : Nat} (h : shG A S i = false) : ∀ n, i ≤ n → shG A S n = false
  | 0, hn => by rw [Nat.le_zero.1 hn] at h; exact h
  | n + 1, hn => by
    rcases Nat.lt_or_ge i (n + 1) with h1 | h1
    · simp only [shG]; rw [shG_no h n (by omega)]; rfl
    · rw [show n + 1 = i by omega]; exact h
theorem lsum_known : Known Try.prog 12 lsumC := by
  refine known1 (nt := 135) (An := fun (c, t, s, x, h, A, n, k, y, p', c', t', s', x', h', S, n', T, y') => (su_an c t s x h A n k y p' c' t' s' x' h' S n' T y')) (labs := []) (lit := false) (em := em_lsum) sh_lsum_le (by kernel_rfl) mixedT tyT_ok (.cons lright_known .nil) Try.func12 (by kernel_rfl) (fun a => by obtain ⟨c, t, s, x, h, A, n, k, y, p', c', t', s', x', h', S, n', T, y'⟩ := a; kernel_rfl) (fun a => by obtain ⟨c, t, s, x, h, A, n, k, y, p', c', t', s', x', h', S, n', T, y'⟩ := a; rfl) (fun a ha => ?_)
  obtain ⟨c, t, s, x, h, A, n, k, y, p', c', t', s', x', h', S, n', T, y'⟩ := a
  replace ha : totOK c t s x n k y A ∧ chkY p' c' t' s' x' h' S n' T y' S.length = 0 ∧ A.length = S.length ∧ S.length ≤ 64 ∧ T.length ≤ 1000000000 := ha.out
  refine ⟨_, vc_lsum c t s x h A n k y p' c' t' s' x' h' S n' T y', ?_⟩
  simp only [Int.reduceLE, Int.reduceLT, Int.reduceEq, Int.reduceNe, Nat.reduceLeDiff, Nat.reduceEqDiff, beq_eq_false_iff_ne, beq_iff_eq, decide_eq_decide, ne_eq, eq_self, true_and, and_true, and_self, and_false, false_and, Bool.not_true, Bool.not_false, Bool.false_eq_true, Bool.true_eq_false, false_implies, true_implies, implies_true, imp_false, not_true, not_false_eq_true, decide_eq_true_eq, decide_eq_false_iff_not, Bool.not_eq_true', Bool.not_eq_false', Bool.and_eq_true, Classical.not_not, decide_true, decide_false, Bool.and_true, Bool.true_and, if_true, if_false, Ob_iff]
  simp only [cl_eq]
  obtain ⟨⟨⟨a1, a2, a3, a4, a5, a6, a7⟩, aA⟩, hc, hl, h64, hT⟩ := ha
  obtain ⟨_, _, z1, z2, z3, _, _⟩ := chkY_zero hc
  have zz := z2
  simp only [r7, r3, Bool.and_eq_true] at zz
  obtain ⟨⟨b1, b2, b3⟩, b4, b5, b6, b7⟩ := zz
  refine ⟨⟨0, rfl, wrapR a1 b1, wrapR a2 b2, wrapR a3 b3, wrapR a4 b4, wrapR a5 b6, by simp [colS], wrapR a7 b7, by omega⟩, fun i hi => ⟨fun hlt => ⟨by omega, i + 1, by rw [wrapI (by omega)]; omega, ?_, by omega, by omega⟩, fun hge => ⟨⟨0, ?_, rfl, by rw [show i = T.length by omega], rfl, by omega⟩, fun j hj => ⟨fun hjl => ?_, fun hjl => ?_⟩⟩⟩⟩
  · have q1 := rightB_iff.1 a6
    have q2 := rightB_iff.1 (colT_right (takB_pre z3 (i := i) (by omega)))
    have q3 := rightB_iff.1 (tak_cl z3 (i := i) (by omega))
    rw [wrapI (by omega)]
    simp only [colS]; omega
  · rw [rightL7, show i = T.length by omega]; simp [shG, r7]
    try rfl
  · have q := tot_cl z1 (i := j) (by omega)
    have qa := aA j (by omega)
    rw [wrapR qa.1 q.1, wrapR qa.2 q.2, plR_next, rightL2]
    refine ⟨by omega, by omega, by omega, by unfold plR; rw [mkR_len]; omega, fun g => ⟨j + 1, ?_, by rw [wrapI (by omega)]; omega, rfl, by omega, by omega⟩, fun g => ⟨j + 1, ?_, by rw [wrapI (by omega)]; omega, rfl, by omega, by omega⟩⟩
    · rw [g.1]; simp only [shG, g.2, Bool.true_and]
    · rcases Bool.and_eq_false_iff.1 g with g | g
      · rw [g]; rfl
      · simp only [shG, g, Bool.false_and, Bool.and_false]
  · have ej : j = S.length := by omega
    subst ej
    refine ⟨fun g => ?_, fun g => ?_⟩
    · have e : goodB c t s x A n k y c' t' s' x' S n' T y' = false := g
      rw [e]
      exact ⟨rfl, rfl, rfl, rfl, rfl, rfl, rfl, rfl, rfl, rfl⟩
    · have e : goodB c t s x A n k y c' t' s' x' S n' T y' = true := by unfold goodB; rw [g.1, g.2]; rfl
      rw [e]
      exact ⟨rfl, rfl, rfl, rfl, rfl, rfl, rfl, rfl, rfl, rfl⟩

theorem lsame_known : Known Try.prog 17 lsameC := by
  refine known1 (nt := 59) (An := fun (p, c, t, s, x, h, S, n, T, y, p', c', t', s', x', h', S', n', T', y') => noAnn) (labs := []) (lit := false) (em := em_lsame) sh_lsame_le (by kernel_rfl) mixedT tyT_ok (.cons eqSh_known (.cons eqTk_known .nil)) Try.func17 (by kernel_rfl) (fun a => by obtain ⟨p, c, t, s, x, h, S, n, T, y, p', c', t', s', x', h', S', n', T', y'⟩ := a; kernel_rfl) (fun a => by obtain ⟨p, c, t, s, x, h, S, n, T, y, p', c', t', s', x', h', S', n', T', y'⟩ := a; rfl) (fun a ha => ?_)
  obtain ⟨p, c, t, s, x, h, S, n, T, y, p', c', t', s', x', h', S', n', T', y'⟩ := a
  replace ha : S.length ≤ 1000000000 ∧ T.length ≤ 1000000000 ∧ S'.length ≤ 1000000000 ∧ T'.length ≤ 1000000000 := ha.out
  refine ⟨_, vc_lsame p c t s x h S n T y p' c' t' s' x' h' S' n' T' y', ?_⟩
  simp only [Int.reduceLE, Int.reduceLT, Int.reduceEq, Int.reduceNe, Nat.reduceLeDiff, Nat.reduceEqDiff, beq_eq_false_iff_ne, beq_iff_eq, decide_eq_decide, ne_eq, eq_self, true_and, and_true, and_self, and_false, false_and, Bool.not_true, Bool.not_false, Bool.false_eq_true, Bool.true_eq_false, false_implies, true_implies, implies_true, imp_false, not_true, not_false_eq_true, decide_eq_true_eq, decide_eq_false_iff_not, Bool.not_eq_true', Bool.not_eq_false', Bool.and_eq_true, Classical.not_not, decide_true, decide_false, Bool.and_true, Bool.true_and, if_true, if_false, Ob_iff]
  refine ⟨fun g1 => ⟨fun g2 => ⟨fun g3 => ⟨fun g4 => ⟨by omega, fun g5 => ⟨fun g6 => ⟨by omega, fun g7 => ?_, fun g7 => ?_⟩, fun g6 => ?_⟩, fun g5 => ?_⟩, fun g4 => ?_⟩, fun g3 => ?_⟩, fun g2 => ?_⟩, fun g1 => ?_⟩
  · simp [g1, g2.1, g2.2.1, g2.2.2, g3, g4, g5, g6, g7]
  · simp [g7]
  · simp [g6]
  · simp [g5]
  · simp [g4]
  · simp [g3]
  · rw [g2]; simp
  · simp [g1]

end Go.Rx

