/- A year: sums of both sides; payslips that hang together. -/
import Derived.Test.YtkmiakgpkgmcbaaMon
namespace Go.Rx
open Go.Proofs
set_option linter.unusedSimpArgs false
set_option linter.unusedVariables false

def shK : List CK := [.int .i64, .int .i64]
def tkK : List CK := [.int .i64, .int .i64, .int .i64, .int .i64, .int .i64, .int .i64]
/-- A row's cell. -/
def cl (l : List SV) (i k : Nat) : Int := (elCell l i k).toInt
def colS (l : List SV) (k : Nat) : Nat → Int
  | 0 => 0
  | i + 1 => colS l k i + cl l i k
def totB (l : List SV) : Nat → Bool
  | 0 => true
  | i + 1 => totB l i && (addB (colS l 0 i) (cl l i 0) && addB (colS l 1 i) (cl l i 1))
def totV (l : List SV) (k : Nat) : Int := if totB l l.length = true then colS l k l.length else 0
def tot_an (l : List SV) : Nat → Option Ann
  | 0 => some ⟨Nat, fun i => ⟨[(2, .ptr 2 0), (4, .ptr 4 0), (10, .sl shK l), (11, .int .i64 l.length), (12, .int .i64 i)], [(2, .box 54 [.int .i64 0, .int .i64 0]), (4, .box 54 [.int .i64 (colS l 0 i), .int .i64 (colS l 1 i)])]⟩, fun i => i ≤ l.length ∧ l.length ≤ 9000000000000000000 ∧ totB l i = true, fun i => l.length - i, [2, 4, 10, 11, 12], [2, 4], [], fun _ _ => none⟩
  | _ => none
def takB (l : List SV) : Nat → Bool
  | 0 => true
  | i + 1 => takB l i && addB (colS l 4 i) (cl l i 4)
def takV (l : List SV) : Int := if takB l l.length = true then colS l 4 l.length else 0
def tak_an (l : List SV) : Nat → Option Ann
  | 0 => some ⟨Nat, fun i => ⟨[(4, .int .i64 (colS l 4 i)), (9, .sl tkK l), (10, .int .i64 l.length), (11, .int .i64 i)], []⟩, fun i => i ≤ l.length ∧ l.length ≤ 9000000000000000000 ∧ takB l i = true, fun i => l.length - i, [4, 9, 10, 11], [], [], fun _ _ => none⟩
  | _ => none

def r3 (c t s : Int) : Bool := rightB c && (rightB t && rightB s)
def bB (c t s d u v : Int) : Bool := addB c d && (addB t u && addB s v)
def bV (b : Bool) (x y : Int) : Int := if b = true then x + y else 0
def both_an : Nat → Option Ann
  | 3000 => some (unroll 4 [2, 6, 8, 31, 32] [6, 8])
  | _ => none
def chkY (p c t s x h : Int) (S : List SV) (n : Int) (T : List SV) (y m : Int) : Int :=
  if p < 1 ∨ 53 < p then 1 else if (S.length : Int) ≠ m then 3 else if totB S S.length = false then 10
  else if r3 c t s = false ∨ (rightB x && (rightB h && (rightB n && rightB y))) = false then 10 else if takB T T.length = false then 10
  else if c - x - colS S 0 S.length ≠ n ∨ n - colS T 4 T.length ≠ y then 5 else 0

def sh_total : List SV → Option (List SV)
  | [l'] => (match slOf [.int .i64, .int .i64] l' with | some l => some l | _ => none)
  | _ => none
def em_total : List SV → List SV := fun l => [.sl [.int .i64, .int .i64] l]
theorem sh_total_le : ∀ us a, sh_total us = some a → leL us (em_total a) := by
  intro us a h
  unfold sh_total at h
  split at h
  · split at h
    · cases h; exact (.cons (.sl (by assumption)) .nil)
    · cases h
  · cases h
def totalC : Con := conOf sh_total (fun l => some (Ob (l.length ≤ 9000000000000000000))) (fun l => .tup [.agg [.int .i64 (totV l 0), .int .i64 (totV l 1)], .int .i64 (chkE (totB l l.length))])
set_option maxRecDepth 100000 in
theorem vc_total (l : List SV) : (wpF ⟨45, tyT, [(39, maddC)], false, 0, [], false⟩ ((tot_an l)) [] Try.f40 (em_total l) (.tup [.agg [.int .i64 (totV l 0), .int .i64 (totV l 1)], .int .i64 (chkE (totB l l.length))])) = (((∃ (x1 : Nat), ((l = l) ∧ (((↑l.length : Int) = (↑l.length : Int)) ∧ (((0 : Int) = (↑x1 : Int)) ∧ (((0 : Int) = (0 : Int)) ∧ (((0 : Int) = (0 : Int)) ∧ (((0 : Int) = colS l (0 : Nat) x1) ∧ (((0 : Int) = colS l (1 : Nat) x1) ∧ (((x1 ≤ l.length) ∧ ((l.length ≤ (9000000000000000000 : Nat)) ∧ (totB l x1 = true))) ∧ ((True) ∧ (True))))))))))) ∧ (∀ (x2 : Nat), (((x2 ≤ l.length) ∧ ((l.length ≤ (9000000000000000000 : Nat)) ∧ (totB l x2 = true))) → (((decide ((↑x2 : Int) < (↑l.length : Int)) = true) → (Ob ((((0 : Int) ≤ (↑x2 : Int)) ∧ ((↑x2 : Int) < (↑l.length : Int)))) ∧ ((((!decide (chkE (addB (colS l (0 : Nat) x2) (elCell l x2 (0 : Nat)).toInt) = (0 : Int))) = true) → (((0 : Int) = totV l (0 : Nat)) ∧ (((0 : Int) = totV l (1 : Nat)) ∧ ((chkE (addB (colS l (0 : Nat) x2) (elCell l x2 (0 : Nat)).toInt) = chkE (totB l l.length)) ∧ (True))))) ∧ (((!decide (chkE (addB (colS l (0 : Nat) x2) (elCell l x2 (0 : Nat)).toInt) = (0 : Int))) = false) → ((((!decide (chkE (addB (colS l (1 : Nat) x2) (elCell l x2 (1 : Nat)).toInt) = (0 : Int))) = true) → (((0 : Int) = totV l (0 : Nat)) ∧ (((0 : Int) = totV l (1 : Nat)) ∧ ((chkE (addB (colS l (1 : Nat) x2) (elCell l x2 (1 : Nat)).toInt) = chkE (totB l l.length)) ∧ (True))))) ∧ (((!decide (chkE (addB (colS l (1 : Nat) x2) (elCell l x2 (1 : Nat)).toInt) = (0 : Int))) = false) → (∃ (x3 : Nat), ((l = l) ∧ (((↑l.length : Int) = (↑l.length : Int)) ∧ ((IntKind.i64.wrap ((↑x2 : Int) + (1 : Int)) = (↑x3 : Int)) ∧ (((0 : Int) = (0 : Int)) ∧ (((0 : Int) = (0 : Int)) ∧ ((addV (colS l (0 : Nat) x2) (elCell l x2 (0 : Nat)).toInt = colS l (0 : Nat) x3) ∧ ((addV (colS l (1 : Nat) x2) (elCell l x2 (1 : Nat)).toInt = colS l (1 : Nat) x3) ∧ (((x3 ≤ l.length) ∧ ((l.length ≤ (9000000000000000000 : Nat)) ∧ (totB l x3 = true))) ∧ ((l.length - x3 < l.length - x2) ∧ (True))))))))))))))))) ∧ ((decide ((↑x2 : Int) < (↑l.length : Int)) = false) → ((colS l (0 : Nat) x2 = totV l (0 : Nat)) ∧ ((colS l (1 : Nat) x2 = totV l (1 : Nat)) ∧ (((0 : Int) = chkE (totB l l.length)) ∧ (True)))))))))) := by kernel_rfl
def sh_sides : List SV → Option (List SV)
  | [l'] => (match slOf [.int .i64, .int .i64] l' with | some l => some l | _ => none)
  | _ => none
def em_sides : List SV → List SV := fun l => [.sl [.int .i64, .int .i64] l]
theorem sh_sides_le : ∀ us a, sh_sides us = some a → leL us (em_sides a) := by
  intro us a h
  unfold sh_sides at h
  split at h
  · split at h
    · cases h; exact (.cons (.sl (by assumption)) .nil)
    · cases h
  · cases h
def sidesC : Con := conOf sh_sides (fun l => some (Ob (l.length ≤ 9000000000000000000))) (fun l => .tup [.agg [.int .i64 (totV l 0), .int .i64 (totV l 1)], .int .i64 (chkE (totB l l.length))])
set_option maxRecDepth 100000 in
theorem vc_sides (l : List SV) : (wpF ⟨8, tyT, [(40, totalC)], false, 0, [], false⟩ (noAnn) [] Try.f38 (em_sides l) (.tup [.agg [.int .i64 (totV l 0), .int .i64 (totV l 1)], .int .i64 (chkE (totB l l.length))])) = ((Ob ((l.length ≤ (9000000000000000000 : Nat))) ∧ ((totV l (0 : Nat) = totV l (0 : Nat)) ∧ ((totV l (1 : Nat) = totV l (1 : Nat)) ∧ ((chkE (totB l l.length) = chkE (totB l l.length)) ∧ (True)))))) := by kernel_rfl
def sh_empl : List SV → Option (List SV)
  | [l'] => (match slOf [.int .i64, .int .i64] l' with | some l => some l | _ => none)
  | _ => none
def em_empl : List SV → List SV := fun l => [.sl [.int .i64, .int .i64] l]
theorem sh_empl_le : ∀ us a, sh_empl us = some a → leL us (em_empl a) := by
  intro us a h
  unfold sh_empl at h
  split at h
  · split at h
    · cases h; exact (.cons (.sl (by assumption)) .nil)
    · cases h
  · cases h
def emplC : Con := conOf sh_empl (fun l => some (Ob (l.length ≤ 9000000000000000000))) (fun l => .tup [.int .i64 (totV l 0), .int .i64 (chkE (totB l l.length))])
set_option maxRecDepth 100000 in
theorem vc_empl (l : List SV) : (wpF ⟨14, tyT, [(38, sidesC)], false, 0, [], false⟩ (noAnn) [] Try.f26 (em_empl l) (.tup [.int .i64 (totV l 0), .int .i64 (chkE (totB l l.length))])) = ((Ob ((l.length ≤ (9000000000000000000 : Nat))) ∧ ((totV l (0 : Nat) = totV l (0 : Nat)) ∧ ((chkE (totB l l.length) = chkE (totB l l.length)) ∧ (True))))) := by kernel_rfl
def sh_asum : List SV → Option (List SV)
  | [l'] => (match slOf [.int .i64, .int .i64, .int .i64, .int .i64, .int .i64, .int .i64] l' with | some l => some l | _ => none)
  | _ => none
def em_asum : List SV → List SV := fun l => [.sl [.int .i64, .int .i64, .int .i64, .int .i64, .int .i64, .int .i64] l]
theorem sh_asum_le : ∀ us a, sh_asum us = some a → leL us (em_asum a) := by
  intro us a h
  unfold sh_asum at h
  split at h
  · split at h
    · cases h; exact (.cons (.sl (by assumption)) .nil)
    · cases h
  · cases h
def asumC : Con := conOf sh_asum (fun l => some (Ob (l.length ≤ 9000000000000000000))) (fun l => .tup [.int .i64 (takV l), .int .i64 (chkE (takB l l.length))])
set_option maxRecDepth 100000 in
theorem vc_asum (l : List SV) : (wpF ⟨28, tyT, [(39, maddC)], false, 0, [], false⟩ ((tak_an l)) [] Try.f29 (em_asum l) (.tup [.int .i64 (takV l), .int .i64 (chkE (takB l l.length))])) = (((∃ (x1 : Nat), (((0 : Int) = colS l (4 : Nat) x1) ∧ ((l = l) ∧ (((↑l.length : Int) = (↑l.length : Int)) ∧ (((0 : Int) = (↑x1 : Int)) ∧ (((x1 ≤ l.length) ∧ ((l.length ≤ (9000000000000000000 : Nat)) ∧ (takB l x1 = true))) ∧ ((True) ∧ (True)))))))) ∧ (∀ (x2 : Nat), (((x2 ≤ l.length) ∧ ((l.length ≤ (9000000000000000000 : Nat)) ∧ (takB l x2 = true))) → (((decide ((↑x2 : Int) < (↑l.length : Int)) = true) → (Ob ((((0 : Int) ≤ (↑x2 : Int)) ∧ ((↑x2 : Int) < (↑l.length : Int)))) ∧ ((((!decide (chkE (addB (colS l (4 : Nat) x2) (elCell l x2 (4 : Nat)).toInt) = (0 : Int))) = true) → (((0 : Int) = takV l) ∧ ((chkE (addB (colS l (4 : Nat) x2) (elCell l x2 (4 : Nat)).toInt) = chkE (takB l l.length)) ∧ (True)))) ∧ (((!decide (chkE (addB (colS l (4 : Nat) x2) (elCell l x2 (4 : Nat)).toInt) = (0 : Int))) = false) → (∃ (x3 : Nat), ((addV (colS l (4 : Nat) x2) (elCell l x2 (4 : Nat)).toInt = colS l (4 : Nat) x3) ∧ ((l = l) ∧ (((↑l.length : Int) = (↑l.length : Int)) ∧ ((IntKind.i64.wrap ((↑x2 : Int) + (1 : Int)) = (↑x3 : Int)) ∧ (((x3 ≤ l.length) ∧ ((l.length ≤ (9000000000000000000 : Nat)) ∧ (takB l x3 = true))) ∧ ((l.length - x3 < l.length - x2) ∧ (True)))))))))))) ∧ ((decide ((↑x2 : Int) < (↑l.length : Int)) = false) → ((colS l (4 : Nat) x2 = takV l) ∧ (((0 : Int) = chkE (takB l l.length)) ∧ (True))))))))) := by kernel_rfl
def sh_bright : List SV → Option (Int × Int × Int)
  | [.agg [.int .i64 c, .int .i64 t, .int .i64 s]] => some (c, t, s)
  | _ => none
def em_bright : Int × Int × Int → List SV := fun (c, t, s) => [.agg [.int .i64 c, .int .i64 t, .int .i64 s]]
theorem sh_bright_le : ∀ us a, sh_bright us = some a → leL us (em_bright a) := by
  intro us a h
  unfold sh_bright at h
  split at h
  · cases h; exact (.cons (.agg (.cons (.refl _) (.cons (.refl _) (.cons (.refl _) .nil)))) .nil)
  · cases h
def brightC : Con := conOf sh_bright (fun _ => none) (fun (c, t, s) => .bool (r3 c t s))
set_option maxRecDepth 100000 in
theorem vc_bright (c : Int) (t : Int) (s : Int) : (wpF ⟨11, tyT, [(28, rightC)], false, 0, [], false⟩ (noAnn) [] Try.f27 (em_bright (c, t, s)) (.bool (r3 c t s))) = ((Ob (((3 : Nat) ≤ (9000000000000000000 : Nat))) ∧ ((rightL [SV.int IntKind.i64 c, SV.int IntKind.i64 t, SV.int IntKind.i64 s] = r3 c t s) ∧ (True)))) := by kernel_rfl
def sh_both : List SV → Option (Int × Int × Int × Int × Int × Int)
  | [.agg [.int .i64 c, .int .i64 t, .int .i64 s], .agg [.int .i64 d, .int .i64 u, .int .i64 v], .fn 39 []] => some (c, t, s, d, u, v)
  | _ => none
def em_both : Int × Int × Int × Int × Int × Int → List SV := fun (c, t, s, d, u, v) => [.agg [.int .i64 c, .int .i64 t, .int .i64 s], .agg [.int .i64 d, .int .i64 u, .int .i64 v], .fn 39 []]
theorem sh_both_le : ∀ us a, sh_both us = some a → leL us (em_both a) := by
  intro us a h
  unfold sh_both at h
  split at h
  · cases h; exact (.cons (.agg (.cons (.refl _) (.cons (.refl _) (.cons (.refl _) .nil)))) (.cons (.agg (.cons (.refl _) (.cons (.refl _) (.cons (.refl _) .nil)))) (.cons (.refl _) .nil)))
  · cases h
def bothC : Con := conOf sh_both (fun _ => none) (fun (c, t, s, d, u, v) => .tup [.agg [.int .i64 (bV (bB c t s d u v) c d), .int .i64 (bV (bB c t s d u v) t u), .int .i64 (bV (bB c t s d u v) s v)], .int .i64 (chkE (bB c t s d u v))])
set_option maxRecDepth 100000 in
theorem vc_both (c : Int) (t : Int) (s : Int) (d : Int) (u : Int) (v : Int) : (wpF ⟨54, tyT, [(39, maddC)], true, 0, [], false⟩ ((both_an)) [] Try.f44 (em_both (c, t, s, d, u, v)) (.tup [.agg [.int .i64 (bV (bB c t s d u v) c d), .int .i64 (bV (bB c t s d u v) t u), .int .i64 (bV (bB c t s d u v) s v)], .int .i64 (chkE (bB c t s d u v))])) = ((Ob ((((0 : Int) ≤ (0 : Int)) ∧ ((0 : Int) < (3 : Int)))) ∧ ((((!decide (chkE (addB c d) = (0 : Int))) = true) → (((0 : Int) = bV (bB c t s d u v) c d) ∧ (((0 : Int) = bV (bB c t s d u v) t u) ∧ (((0 : Int) = bV (bB c t s d u v) s v) ∧ ((chkE (addB c d) = chkE (bB c t s d u v)) ∧ (True)))))) ∧ (((!decide (chkE (addB c d) = (0 : Int))) = false) → (Ob ((((0 : Int) ≤ (1 : Int)) ∧ ((1 : Int) < (3 : Int)))) ∧ ((((!decide (chkE (addB t u) = (0 : Int))) = true) → (((0 : Int) = bV (bB c t s d u v) c d) ∧ (((0 : Int) = bV (bB c t s d u v) t u) ∧ (((0 : Int) = bV (bB c t s d u v) s v) ∧ ((chkE (addB t u) = chkE (bB c t s d u v)) ∧ (True)))))) ∧ (((!decide (chkE (addB t u) = (0 : Int))) = false) → (Ob ((((0 : Int) ≤ (2 : Int)) ∧ ((2 : Int) < (3 : Int)))) ∧ ((((!decide (chkE (addB s v) = (0 : Int))) = true) → (((0 : Int) = bV (bB c t s d u v) c d) ∧ (((0 : Int) = bV (bB c t s d u v) t u) ∧ (((0 : Int) = bV (bB c t s d u v) s v) ∧ ((chkE (addB s v) = chkE (bB c t s d u v)) ∧ (True)))))) ∧ (((!decide (chkE (addB s v) = (0 : Int))) = false) → ((addV c d = bV (bB c t s d u v) c d) ∧ ((addV t u = bV (bB c t s d u v) t u) ∧ ((addV s v = bV (bB c t s d u v) s v) ∧ (((0 : Int) = chkE (bB c t s d u v)) ∧ (True))))))))))))))) := by kernel_rfl
def sh_badd : List SV → Option (Int × Int × Int × Int × Int × Int)
  | [.agg [.int .i64 c, .int .i64 t, .int .i64 s], .agg [.int .i64 d, .int .i64 u, .int .i64 v]] => some (c, t, s, d, u, v)
  | _ => none
def em_badd : Int × Int × Int × Int × Int × Int → List SV := fun (c, t, s, d, u, v) => [.agg [.int .i64 c, .int .i64 t, .int .i64 s], .agg [.int .i64 d, .int .i64 u, .int .i64 v]]
theorem sh_badd_le : ∀ us a, sh_badd us = some a → leL us (em_badd a) := by
  intro us a h
  unfold sh_badd at h
  split at h
  · cases h; exact (.cons (.agg (.cons (.refl _) (.cons (.refl _) (.cons (.refl _) .nil)))) (.cons (.agg (.cons (.refl _) (.cons (.refl _) (.cons (.refl _) .nil)))) .nil))
  · cases h
def baddC : Con := conOf sh_badd (fun _ => none) (fun (c, t, s, d, u, v) => .tup [.agg [.int .i64 (bV (bB c t s d u v) c d), .int .i64 (bV (bB c t s d u v) t u), .int .i64 (bV (bB c t s d u v) s v)], .int .i64 (chkE (bB c t s d u v))])
set_option maxRecDepth 100000 in
theorem vc_badd (c : Int) (t : Int) (s : Int) (d : Int) (u : Int) (v : Int) : (wpF ⟨11, tyT, [(44, bothC), (39, maddC)], false, 0, [], false⟩ (noAnn) [] Try.f41 (em_badd (c, t, s, d, u, v)) (.tup [.agg [.int .i64 (bV (bB c t s d u v) c d), .int .i64 (bV (bB c t s d u v) t u), .int .i64 (bV (bB c t s d u v) s v)], .int .i64 (chkE (bB c t s d u v))])) = (((bV (bB c t s d u v) c d = bV (bB c t s d u v) c d) ∧ ((bV (bB c t s d u v) t u = bV (bB c t s d u v) t u) ∧ ((bV (bB c t s d u v) s v = bV (bB c t s d u v) s v) ∧ ((chkE (bB c t s d u v) = chkE (bB c t s d u v)) ∧ (True)))))) := by kernel_rfl
def sh_ycheck : List SV → Option (Int × Int × Int × Int × Int × Int × (List SV) × Int × (List SV) × Int × Int)
  | [.agg [.int .i64 p, .int .i64 c, .int .i64 t, .int .i64 s, .int .i64 x, .int .i64 h, S', .int .i64 n, T', .int .i64 y], .int .i64 m] => (match slOf [.int .i64, .int .i64] S' with | some S => (match slOf [.int .i64, .int .i64, .int .i64, .int .i64, .int .i64, .int .i64] T' with | some T => some (p, c, t, s, x, h, S, n, T, y, m) | _ => none) | _ => none)
  | _ => none
def em_ycheck : Int × Int × Int × Int × Int × Int × (List SV) × Int × (List SV) × Int × Int → List SV := fun (p, c, t, s, x, h, S, n, T, y, m) => [.agg [.int .i64 p, .int .i64 c, .int .i64 t, .int .i64 s, .int .i64 x, .int .i64 h, .sl [.int .i64, .int .i64] S, .int .i64 n, .sl [.int .i64, .int .i64, .int .i64, .int .i64, .int .i64, .int .i64] T, .int .i64 y], .int .i64 m]
theorem sh_ycheck_le : ∀ us a, sh_ycheck us = some a → leL us (em_ycheck a) := by
  intro us a h
  unfold sh_ycheck at h
  split at h
  · split at h
    · split at h
      · cases h; exact (.cons (.agg (.cons (.refl _) (.cons (.refl _) (.cons (.refl _) (.cons (.refl _) (.cons (.refl _) (.cons (.refl _) (.cons (.sl (by assumption)) (.cons (.refl _) (.cons (.sl (by assumption)) (.cons (.refl _) .nil))))))))))) (.cons (.refl _) .nil))
      · cases h
    · cases h
  · cases h
def ycheckC : Con := conOf sh_ycheck (fun (p, c, t, s, x, h, S, n, T, y, m) => some (Ob (S.length ≤ 9000000000000000000 ∧ T.length ≤ 9000000000000000000 ∧ in64 m))) (fun (p, c, t, s, x, h, S, n, T, y, m) => .int .i64 (chkY p c t s x h S n T y m))
set_option maxRecDepth 100000 in
theorem vc_ycheck (p : Int) (c : Int) (t : Int) (s : Int) (x : Int) (h : Int) (S : List SV) (n : Int) (T : List SV) (y : Int) (m : Int) : (wpF ⟨76, tyT, [(26, emplC), (27, brightC), (28, rightC), (29, asumC)], false, 0, [], false⟩ (noAnn) [] Try.f9 (em_ycheck (p, c, t, s, x, h, S, n, T, y, m)) (.int .i64 (chkY p c t s x h S n T y m))) = ((((decide (p < (1 : Int)) = true) → (((1 : Int) = chkY p c t s x h S n T y m) ∧ (True))) ∧ ((decide (p < (1 : Int)) = false) → (((decide ((53 : Int) < p) = true) → (((1 : Int) = chkY p c t s x h S n T y m) ∧ (True))) ∧ ((decide ((53 : Int) < p) = false) → ((((!decide ((↑S.length : Int) = m)) = true) → (((3 : Int) = chkY p c t s x h S n T y m) ∧ (True))) ∧ (((!decide ((↑S.length : Int) = m)) = false) → (Ob ((S.length ≤ (9000000000000000000 : Nat))) ∧ ((((!decide (chkE (totB S S.length) = (0 : Int))) = true) → ((chkE (totB S S.length) = chkY p c t s x h S n T y m) ∧ (True))) ∧ (((!decide (chkE (totB S S.length) = (0 : Int))) = false) → ((((!r3 c t s) = true) → (((10 : Int) = chkY p c t s x h S n T y m) ∧ (True))) ∧ (((!r3 c t s) = false) → (Ob (((4 : Nat) ≤ (9000000000000000000 : Nat))) ∧ ((((!rightL [SV.int IntKind.i64 x, SV.int IntKind.i64 h, SV.int IntKind.i64 n, SV.int IntKind.i64 y]) = true) → (((10 : Int) = chkY p c t s x h S n T y m) ∧ (True))) ∧ (((!rightL [SV.int IntKind.i64 x, SV.int IntKind.i64 h, SV.int IntKind.i64 n, SV.int IntKind.i64 y]) = false) → (Ob ((T.length ≤ (9000000000000000000 : Nat))) ∧ ((((!decide (chkE (takB T T.length) = (0 : Int))) = true) → ((chkE (takB T T.length) = chkY p c t s x h S n T y m) ∧ (True))) ∧ (((!decide (chkE (takB T T.length) = (0 : Int))) = false) → ((((!decide (IntKind.i64.wrap (IntKind.i64.wrap (c - x) - totV S (0 : Nat)) = n)) = true) → (((5 : Int) = chkY p c t s x h S n T y m) ∧ (True))) ∧ (((!decide (IntKind.i64.wrap (IntKind.i64.wrap (c - x) - totV S (0 : Nat)) = n)) = false) → ((((!decide (IntKind.i64.wrap (n - takV T) = y)) = true) → (((5 : Int) = chkY p c t s x h S n T y m) ∧ (True))) ∧ (((!decide (IntKind.i64.wrap (n - takV T) = y)) = false) → (((0 : Int) = chkY p c t s x h S n T y m) ∧ (True)))))))))))))))))))))))) := by kernel_rfl
theorem addB_iff {x y : Int} : addB x y = true ↔ (rightB x = true ∧ rightB y = true) ∧ rightB (x + y) = true := by simp [addB]
theorem cl_eq (l : List SV) (i k : Nat) : (elCell l i k).toInt = cl l i k := rfl
theorem colS_right {l : List SV} : ∀ {i : Nat}, totB l i = true → rightB (colS l 0 i) = true ∧ rightB (colS l 1 i) = true
  | 0, _ => ⟨rfl, rfl⟩
  | i + 1, h => by
    simp only [totB, Bool.and_eq_true, addB_iff] at h
    exact ⟨h.2.1.2, h.2.2.2⟩
theorem totB_no {l : List SV} {i : Nat} (h : totB l i = false) : ∀ n, i ≤ n → totB l n = false
  | 0, hn => by rw [Nat.le_zero.1 hn] at h; exact h
  | n + 1, hn => by
    rcases Nat.lt_or_ge i (n + 1) with h1 | h1
    · simp only [totB]; rw [totB_no h n (by omega)]; rfl
    · rw [show n + 1 = i by omega]; exact h
theorem takB_no {l : List SV} {i : Nat} (h : takB l i = false) : ∀ n, i ≤ n → takB l n = false
  | 0, hn => by rw [Nat.le_zero.1 hn] at h; exact h
  | n + 1, hn => by
    rcases Nat.lt_or_ge i (n + 1) with h1 | h1
    · simp only [takB]; rw [takB_no h n (by omega)]; rfl
    · rw [show n + 1 = i by omega]; exact h
theorem chkE_ne {b : Bool} : ¬ chkE b = 0 ↔ b = false := by cases b <;> simp [chkE]
theorem chkE_z {b : Bool} : chkE b = 0 ↔ b = true := by cases b <;> simp [chkE]
theorem not_t {b : Bool} : ¬ b = true ↔ b = false := by cases b <;> simp
theorem totV_no {l : List SV} {k : Nat} (h : totB l l.length = false) : totV l k = 0 := by unfold totV; rw [if_neg (by rw [h]; decide)]
theorem totV_ok {l : List SV} {k : Nat} (h : totB l l.length = true) : totV l k = colS l k l.length := by unfold totV; rw [if_pos h]
theorem takV_no {l : List SV} (h : takB l l.length = false) : takV l = 0 := by unfold takV; rw [if_neg (by rw [h]; decide)]
theorem takV_ok {l : List SV} (h : takB l l.length = true) : takV l = colS l 4 l.length := by unfold takV; rw [if_pos h]
theorem addV_ok {x y : Int} (h : addB x y = true) : addV x y = x + y := by unfold addV; rw [if_pos h]
theorem colT_right {l : List SV} : ∀ {i : Nat}, takB l i = true → rightB (colS l 4 i) = true
  | 0, _ => rfl
  | i + 1, h => by
    simp only [takB, Bool.and_eq_true, addB_iff] at h
    exact h.2.2

theorem total_known : Known Try.prog 40 totalC := by
  refine known1 (nt := 45) (An := fun l => (tot_an l)) (labs := []) (lit := false) (em := em_total) sh_total_le (by kernel_rfl) mixedT tyT_ok (.cons madd_known .nil) Try.func40 (by kernel_rfl) (fun a => by kernel_rfl) (fun a => by rfl) (fun l ha => ?_)
  replace ha : l.length ≤ 9000000000000000000 := ha.out
  refine ⟨_, vc_total l, ?_⟩
  simp only [Int.reduceLE, Int.reduceLT, Int.reduceEq, Int.reduceNe, Nat.reduceLeDiff, Nat.reduceEqDiff, beq_eq_false_iff_ne, beq_iff_eq, decide_eq_decide, ne_eq, eq_self, true_and, and_true, and_self, and_false, false_and, Bool.not_true, Bool.not_false, Bool.false_eq_true, Bool.true_eq_false, false_implies, true_implies, implies_true, imp_false, not_true, not_false_eq_true, decide_eq_true_eq, decide_eq_false_iff_not, Bool.not_eq_true', Bool.not_eq_false', Bool.and_eq_true, Classical.not_not, decide_true, decide_false, Bool.and_true, Bool.true_and, if_true, if_false, Ob_iff]
  simp only [cl_eq, chkE_z, not_t]
  refine ⟨⟨0, rfl, rfl, rfl, by omega, ha, rfl⟩, fun i hi => ⟨fun hlt => ⟨by omega, fun he => ?_, fun he => ⟨fun hf => ?_, fun hf => ⟨i + 1, by rw [wrapI (by omega)]; omega, ?_, ?_, ⟨by omega, ha, ?_⟩, by omega⟩⟩⟩, fun hge => ?_⟩⟩
  · have hb : totB l l.length = false := totB_no (i := i + 1) (by simp only [totB, he]; simp) _ (by omega)
    rw [totV_no hb, totV_no hb, hb, he]; exact ⟨rfl, rfl, rfl⟩
  · have hb : totB l l.length = false := totB_no (i := i + 1) (by simp only [totB, hf]; simp) _ (by omega)
    rw [totV_no hb, totV_no hb, hb, hf]; exact ⟨rfl, rfl, rfl⟩
  · rw [addV_ok he]; rfl
  · rw [addV_ok hf]; rfl
  · simp only [totB, hi.2.2, he, hf]; rfl
  · have e : i = l.length := by omega
    subst e
    rw [totV_ok hi.2.2, totV_ok hi.2.2, hi.2.2]; exact ⟨rfl, rfl, rfl⟩

theorem sides_known : Known Try.prog 38 sidesC := by
  refine known1 (nt := 8) (An := fun l => noAnn) (labs := []) (lit := false) (em := em_sides) sh_sides_le (by kernel_rfl) mixedT tyT_ok (.cons total_known .nil) Try.func38 (by kernel_rfl) (fun a => by kernel_rfl) (fun a => by rfl) (fun l ha => ?_)
  replace ha : l.length ≤ 9000000000000000000 := ha.out
  refine ⟨_, vc_sides l, ?_⟩
  simp only [Int.reduceLE, Int.reduceLT, Int.reduceEq, Int.reduceNe, Nat.reduceLeDiff, Nat.reduceEqDiff, beq_eq_false_iff_ne, beq_iff_eq, decide_eq_decide, ne_eq, eq_self, true_and, and_true, and_self, and_false, false_and, Bool.not_true, Bool.not_false, Bool.false_eq_true, Bool.true_eq_false, false_implies, true_implies, implies_true, imp_false, not_true, not_false_eq_true, decide_eq_true_eq, decide_eq_false_iff_not, Bool.not_eq_true', Bool.not_eq_false', Bool.and_eq_true, Classical.not_not, decide_true, decide_false, Bool.and_true, Bool.true_and, if_true, if_false, Ob_iff]
  exact ha

theorem empl_known : Known Try.prog 26 emplC := by
  refine known1 (nt := 14) (An := fun l => noAnn) (labs := []) (lit := false) (em := em_empl) sh_empl_le (by kernel_rfl) mixedT tyT_ok (.cons sides_known .nil) Try.func26 (by kernel_rfl) (fun a => by kernel_rfl) (fun a => by rfl) (fun l ha => ?_)
  replace ha : l.length ≤ 9000000000000000000 := ha.out
  refine ⟨_, vc_empl l, ?_⟩
  simp only [Int.reduceLE, Int.reduceLT, Int.reduceEq, Int.reduceNe, Nat.reduceLeDiff, Nat.reduceEqDiff, beq_eq_false_iff_ne, beq_iff_eq, decide_eq_decide, ne_eq, eq_self, true_and, and_true, and_self, and_false, false_and, Bool.not_true, Bool.not_false, Bool.false_eq_true, Bool.true_eq_false, false_implies, true_implies, implies_true, imp_false, not_true, not_false_eq_true, decide_eq_true_eq, decide_eq_false_iff_not, Bool.not_eq_true', Bool.not_eq_false', Bool.and_eq_true, Classical.not_not, decide_true, decide_false, Bool.and_true, Bool.true_and, if_true, if_false, Ob_iff]
  exact ha

theorem asum_known : Known Try.prog 29 asumC := by
  refine known1 (nt := 28) (An := fun l => (tak_an l)) (labs := []) (lit := false) (em := em_asum) sh_asum_le (by kernel_rfl) mixedT tyT_ok (.cons madd_known .nil) Try.func29 (by kernel_rfl) (fun a => by kernel_rfl) (fun a => by rfl) (fun l ha => ?_)
  replace ha : l.length ≤ 9000000000000000000 := ha.out
  refine ⟨_, vc_asum l, ?_⟩
  simp only [Int.reduceLE, Int.reduceLT, Int.reduceEq, Int.reduceNe, Nat.reduceLeDiff, Nat.reduceEqDiff, beq_eq_false_iff_ne, beq_iff_eq, decide_eq_decide, ne_eq, eq_self, true_and, and_true, and_self, and_false, false_and, Bool.not_true, Bool.not_false, Bool.false_eq_true, Bool.true_eq_false, false_implies, true_implies, implies_true, imp_false, not_true, not_false_eq_true, decide_eq_true_eq, decide_eq_false_iff_not, Bool.not_eq_true', Bool.not_eq_false', Bool.and_eq_true, Classical.not_not, decide_true, decide_false, Bool.and_true, Bool.true_and, if_true, if_false, Ob_iff]
  simp only [cl_eq, chkE_z, not_t]
  refine ⟨⟨0, rfl, rfl, by omega, ha, rfl⟩, fun i hi => ⟨fun hlt => ⟨by omega, fun he => ?_, fun he => ⟨i + 1, ?_, by rw [wrapI (by omega)]; omega, ⟨by omega, ha, ?_⟩, by omega⟩⟩, fun hge => ?_⟩⟩
  · have hb : takB l l.length = false := takB_no (i := i + 1) (by simp only [takB, he]; simp) _ (by omega)
    rw [takV_no hb, hb, he]; exact ⟨rfl, rfl⟩
  · rw [addV_ok he]; rfl
  · simp only [takB, hi.2.2, he]; rfl
  · have e : i = l.length := by omega
    subst e
    rw [takV_ok hi.2.2, hi.2.2]; exact ⟨rfl, rfl⟩

theorem rightL3 (c t s : Int) : rightL [.int .i64 c, .int .i64 t, .int .i64 s] = r3 c t s := by simp [rightL, ints, elCell, SV.cells, SV.toInt, r3, List.range, List.range.loop]
theorem rightL4 (c t s n : Int) : rightL [.int .i64 c, .int .i64 t, .int .i64 s, .int .i64 n] = (rightB c && (rightB t && (rightB s && rightB n))) := by simp [rightL, ints, elCell, SV.cells, SV.toInt, List.range, List.range.loop]
theorem bright_known : Known Try.prog 27 brightC := by
  refine known1 (nt := 11) (An := fun (c, t, s) => noAnn) (labs := []) (lit := false) (em := em_bright) sh_bright_le (by kernel_rfl) mixedT tyT_ok (.cons right_known .nil) Try.func27 (by kernel_rfl) (fun a => by obtain ⟨c, t, s⟩ := a; kernel_rfl) (fun a => by obtain ⟨c, t, s⟩ := a; rfl) (fun a ha => ?_)
  obtain ⟨c, t, s⟩ := a
  refine ⟨_, vc_bright c t s, ?_⟩
  simp only [Int.reduceLE, Int.reduceLT, Int.reduceEq, Int.reduceNe, Nat.reduceLeDiff, Nat.reduceEqDiff, beq_eq_false_iff_ne, beq_iff_eq, decide_eq_decide, ne_eq, eq_self, true_and, and_true, and_self, and_false, false_and, Bool.not_true, Bool.not_false, Bool.false_eq_true, Bool.true_eq_false, false_implies, true_implies, implies_true, imp_false, not_true, not_false_eq_true, decide_eq_true_eq, decide_eq_false_iff_not, Bool.not_eq_true', Bool.not_eq_false', Bool.and_eq_true, Classical.not_not, decide_true, decide_false, Bool.and_true, Bool.true_and, if_true, if_false, Ob_iff]
  exact rightL3 c t s

theorem both_known : Known Try.prog 44 bothC := by
  refine known1 (nt := 54) (An := fun (c, t, s, d, u, v) => (both_an)) (labs := []) (lit := true) (em := em_both) sh_both_le (by kernel_rfl) mixedT tyT_ok (.cons madd_known .nil) Try.func44 (by kernel_rfl) (fun a => by obtain ⟨c, t, s, d, u, v⟩ := a; kernel_rfl) (fun a => by obtain ⟨c, t, s, d, u, v⟩ := a; rfl) (fun a ha => ?_)
  obtain ⟨c, t, s, d, u, v⟩ := a
  refine ⟨_, vc_both c t s d u v, ?_⟩
  simp only [Int.reduceLE, Int.reduceLT, Int.reduceEq, Int.reduceNe, Nat.reduceLeDiff, Nat.reduceEqDiff, beq_eq_false_iff_ne, beq_iff_eq, decide_eq_decide, ne_eq, eq_self, true_and, and_true, and_self, and_false, false_and, Bool.not_true, Bool.not_false, Bool.false_eq_true, Bool.true_eq_false, false_implies, true_implies, implies_true, imp_false, not_true, not_false_eq_true, decide_eq_true_eq, decide_eq_false_iff_not, Bool.not_eq_true', Bool.not_eq_false', Bool.and_eq_true, Classical.not_not, decide_true, decide_false, Bool.and_true, Bool.true_and, if_true, if_false, Ob_iff]
  simp only [chkE_z, not_t]
  refine ⟨fun h => ?_, fun h1 => ⟨fun h => ?_, fun h2 => ⟨fun h => ?_, fun h3 => ?_⟩⟩⟩
  · have e : bB c t s d u v = false := by simp [bB, h]
    rw [e, h]; exact ⟨rfl, rfl, rfl, rfl⟩
  · have e : bB c t s d u v = false := by simp [bB, h]
    rw [e, h]; exact ⟨rfl, rfl, rfl, rfl⟩
  · have e : bB c t s d u v = false := by simp [bB, h]
    rw [e, h]; exact ⟨rfl, rfl, rfl, rfl⟩
  · have e : bB c t s d u v = true := by simp [bB, h1, h2, h3]
    rw [e, addV_ok h1, addV_ok h2, addV_ok h3]; exact ⟨rfl, rfl, rfl, rfl⟩

theorem badd_known : Known Try.prog 41 baddC := by
  refine known1 (nt := 11) (An := fun (c, t, s, d, u, v) => noAnn) (labs := []) (lit := false) (em := em_badd) sh_badd_le (by kernel_rfl) mixedT tyT_ok (.cons both_known (.cons madd_known .nil)) Try.func41 (by kernel_rfl) (fun a => by obtain ⟨c, t, s, d, u, v⟩ := a; kernel_rfl) (fun a => by obtain ⟨c, t, s, d, u, v⟩ := a; rfl) (fun a ha => ?_)
  obtain ⟨c, t, s, d, u, v⟩ := a
  refine ⟨_, vc_badd c t s d u v, ?_⟩
  simp only [Int.reduceLE, Int.reduceLT, Int.reduceEq, Int.reduceNe, Nat.reduceLeDiff, Nat.reduceEqDiff, beq_eq_false_iff_ne, beq_iff_eq, decide_eq_decide, ne_eq, eq_self, true_and, and_true, and_self, and_false, false_and, Bool.not_true, Bool.not_false, Bool.false_eq_true, Bool.true_eq_false, false_implies, true_implies, implies_true, imp_false, not_true, not_false_eq_true, decide_eq_true_eq, decide_eq_false_iff_not, Bool.not_eq_true', Bool.not_eq_false', Bool.and_eq_true, Classical.not_not, decide_true, decide_false, Bool.and_true, Bool.true_and, if_true, if_false, Ob_iff]

theorem ycheck_known : Known Try.prog 9 ycheckC := by
  refine known1 (nt := 76) (An := fun (p, c, t, s, x, h, S, n, T, y, m) => noAnn) (labs := []) (lit := false) (em := em_ycheck) sh_ycheck_le (by kernel_rfl) mixedT tyT_ok (.cons empl_known (.cons bright_known (.cons right_known (.cons asum_known .nil)))) Try.func9 (by kernel_rfl) (fun a => by obtain ⟨p, c, t, s, x, h, S, n, T, y, m⟩ := a; kernel_rfl) (fun a => by obtain ⟨p, c, t, s, x, h, S, n, T, y, m⟩ := a; rfl) (fun a ha => ?_)
  obtain ⟨p, c, t, s, x, h, S, n, T, y, m⟩ := a
  replace ha : S.length ≤ 9000000000000000000 ∧ T.length ≤ 9000000000000000000 ∧ in64 m := ha.out
  refine ⟨_, vc_ycheck p c t s x h S n T y m, ?_⟩
  simp only [Int.reduceLE, Int.reduceLT, Int.reduceEq, Int.reduceNe, Nat.reduceLeDiff, Nat.reduceEqDiff, beq_eq_false_iff_ne, beq_iff_eq, decide_eq_decide, ne_eq, eq_self, true_and, and_true, and_self, and_false, false_and, Bool.not_true, Bool.not_false, Bool.false_eq_true, Bool.true_eq_false, false_implies, true_implies, implies_true, imp_false, not_true, not_false_eq_true, decide_eq_true_eq, decide_eq_false_iff_not, Bool.not_eq_true', Bool.not_eq_false', Bool.and_eq_true, Classical.not_not, decide_true, decide_false, Bool.and_true, Bool.true_and, if_true, if_false, Ob_iff]
  simp only [chkE_z, not_t, rightL4]
  refine ⟨fun g => ?_, fun h1 => ⟨fun g => ?_, fun h2 => ⟨fun g => ?_, fun h3 => ⟨ha.1, fun g => ?_, fun h4 => ⟨fun g => ?_, fun h5 => ⟨fun g => ?_, fun h6 => ⟨ha.2.1, fun g => ?_, fun h7 => ?_⟩⟩⟩⟩⟩⟩⟩
  · unfold chkY; rw [if_pos (.inl g)]
  · unfold chkY; rw [if_pos (.inr g)]
  · unfold chkY; rw [if_neg (by omega), if_pos g]
  · unfold chkY; rw [if_neg (by omega), if_neg (by omega), if_pos g, g]; rfl
  all_goals have h4' : ¬ totB S S.length = false := by rw [h4]; decide
  · unfold chkY; rw [if_neg (by omega), if_neg (by omega), if_neg h4', if_pos (.inl g)]
  · unfold chkY; rw [if_neg (by omega), if_neg (by omega), if_neg h4', if_pos (.inr g)]
  all_goals have h56 : ¬ (r3 c t s = false ∨ (rightB x && (rightB h && (rightB n && rightB y))) = false) := by rw [h5, h6]; decide
  · unfold chkY; rw [if_neg (by omega), if_neg (by omega), if_neg h4', if_neg h56, if_pos g, g]; rfl
  have h7' : ¬ takB T T.length = false := by rw [h7]; decide
  simp only [r3, Bool.and_eq_true, rightB_iff] at h5 h6
  have c1 := rightB_iff.1 (colS_right h4).1
  have c2 := rightB_iff.1 (colT_right h7)
  rw [totV_ok h4, takV_ok h7, wrapI (n := c - x) (by omega), wrapI (n := c - x - colS S 0 S.length) (by omega), wrapI (n := n - colS T 4 T.length) (by omega)]
  unfold chkY; rw [if_neg (by omega), if_neg (by omega), if_neg h4', if_neg h56, if_neg h7']
  refine ⟨fun g => by rw [if_pos (.inl g)], fun h8 => ⟨fun g => by rw [if_pos (.inr g)], fun h9 => by rw [if_neg (by omega)]⟩⟩

end Go.Rx

