/- A year: rows together; copies; one payslip more. -/
import Derived.Test.YtkmiakgpkgmcbaaYr
namespace Go.Rx
open Go.Proofs
set_option linter.unusedSimpArgs false
set_option linter.unusedVariables false

def el2 (a b : Int) : SV := .agg [.int .i64 a, .int .i64 b]
def mkR (n : Nat) (f g : Nat → Int) : List SV := (List.range n).map fun i => el2 (f i) (g i)
def rwA (R : List SV) (k : Nat) : List SV := (elCell R k 0).toSl
def sc (R : List SV) (c : Nat) : Nat → Nat → Int
  | 0, _ => 0
  | k + 1, i => sc R c k i + cl (rwA R k) i c
def rowC (R : List SV) (k i : Nat) : Bool := totB [el2 (sc R 0 k i) (sc R 1 k i), el2 (cl (rwA R k) i 0) (cl (rwA R k) i 1)] 2
def rowB (R : List SV) (k : Nat) : Nat → Bool
  | 0 => true
  | i + 1 => rowB R k i && rowC R k i
/-- The first error, of so many. -/
def feN (f : Nat → Int) : Nat → Int
  | 0 => 0
  | i + 1 => if feN f i = 0 then f i else feN f i
def stE (R : List SV) (n : Int) (k : Nat) : Int := if ((rwA R k).length : Int) ≠ n then 3 else if rowB R k (rwA R k).length = true then 0 else 10
def sumE (n : Int) (R : List SV) : Int := if n < 0 ∨ 64 < n then 1 else feN (stE R n) R.length
def sumR (n : Int) (R : List SV) : List SV := if sumE n R = 0 then mkR n.toNat (sc R 0 R.length) (sc R 1 R.length) else []
def ssum_an (n : Int) (R : List SV) : Nat → Option Ann
  | 0 => some ⟨Nat, fun k => ⟨[(0, .int .i64 n), (6, .osl 19 0), (20, .sl [.sl shK] R), (21, .int .i64 R.length), (22, .int .i64 k)], [(19, .row 0 54 shK (mkR n.toNat (sc R 0 k) (sc R 1 k)))]⟩, fun k => k ≤ R.length ∧ 0 ≤ n ∧ n ≤ 64 ∧ feN (stE R n) k = 0, fun k => R.length - k, [0, 6, 20, 21, 22], [19], [], fun k => fun
    | 2 => some ⟨Nat, fun j => ⟨[(0, .int .i64 n), (6, .osl 19 0), (8, .sl shK (rwA R k)), (20, .sl [.sl shK] R), (21, .int .i64 R.length), (22, .int .i64 k), (31, .int .i64 (rwA R k).length), (32, .int .i64 j)], [(19, .row 0 54 shK (mkR n.toNat (fun i => if i < j then sc R 0 (k + 1) i else sc R 0 k i) (fun i => if i < j then sc R 1 (k + 1) i else sc R 1 k i)))]⟩, fun j => j ≤ (rwA R k).length ∧ ((rwA R k).length : Int) = n ∧ rowB R k j = true, fun j => (rwA R k).length - j, [0, 6, 8, 20, 21, 22, 31, 32], [19], [], fun _ _ => none⟩
    | _ => none⟩
  | _ => none
def two (A B : List SV) : List SV := [.sl shK A, .sl shK B]
def postE (A B : List SV) : Int := if A.length ≠ B.length then 3 else sumE A.length (two A B)
def addR (A B : List SV) : List SV := if postE A B = 0 then mkR A.length (sc (two A B) 0 2) (sc (two A B) 1 2) else []
def eqE (w : Nat) (a b : List SV) (i : Nat) : Bool := (List.range w).all fun k => decide (cl a i k = cl b i k)
def eqRw (w : Nat) (a b : List SV) : Nat → Bool
  | 0 => true
  | i + 1 => eqRw w a b i && eqE w a b i
def eqS_ (w : Nat) (a b : List SV) : Bool := decide (a.length = b.length) && eqRw w a b a.length
def eq_an (K : List CK) (w : Nat) (a b : List SV) : Nat → Option Ann
  | 0 => some ⟨Nat, fun i => ⟨[(0, .sl K a), (1, .sl K b), (12, .int .i64 a.length), (13, .int .i64 i)], []⟩, fun i => i ≤ a.length ∧ a.length = b.length ∧ a.length ≤ 1000000000 ∧ eqRw w a b i = true, fun i => a.length - i, [0, 1, 12, 13], [], [], fun _ _ => none⟩
  | _ => none
def eqT (c t s x h : Int) (S : List SV) (n k y c' t' s' x' h' : Int) (S' : List SV) (n' k' y' : Int) : Bool :=
  (decide (c = c') && (decide (t = t') && decide (s = s'))) && (decide (x = x') && (decide (h = h') && (eqS_ 2 S S' && (decide (n = n') && (decide (k = k') && decide (y = y'))))))
def addE (c t s x : Int) (A : List SV) (n k y c' t' s' x' : Int) (S : List SV) (n' : Int) (T : List SV) (y' : Int) : Int :=
  if bB c t s c' t' s' = false then 10 else if takB T T.length = false then 10
  else if (addB x x' && (addB n n' && (addB k (colS T 4 T.length) && addB y y'))) = false then 10 else postE A S
def pk (e x y : Int) : Int := if e = 0 then x + y else x
def add_an : Nat → Option Ann
  | 3000 => some (unroll 5 [2, 3, 4, 6, 50, 51] [2, 3, 4, 6])
  | _ => none

def sh_ssum : List SV → Option (Int × (List SV))
  | [.int .i64 n, R'] => (match slOf [.sl [.int .i64, .int .i64]] R' with | some R => some (n, R) | _ => none)
  | _ => none
def em_ssum : Int × (List SV) → List SV := fun (n, R) => [.int .i64 n, .sl [.sl [.int .i64, .int .i64]] R]
theorem sh_ssum_le : ∀ us a, sh_ssum us = some a → leL us (em_ssum a) := by
  intro us a h
  unfold sh_ssum at h
  split at h
  · split at h
    · cases h; exact (.cons (.refl _) (.cons (.sl (by assumption)) .nil))
    · cases h
  · cases h
def ssumC : Con := conOf sh_ssum (fun (n, R) => some (Ob (in64 n ∧ R.length ≤ 1000000000))) (fun (n, R) => .tup [.sl shK (sumR n R), .int .i64 (sumE n R)])
set_option maxRecDepth 100000 in
theorem vc_ssum (n : Int) (R : List SV) : (wpF ⟨58, tyT, [(40, totalC)], false, 0, [], false⟩ ((ssum_an n R)) [] Try.f31 (em_ssum (n, R)) (.tup [.sl shK (sumR n R), .int .i64 (sumE n R)])) = ((((decide (n < (0 : Int)) = true) → ((sumR n R = []) ∧ (((1 : Int) = sumE n R) ∧ (True)))) ∧ ((decide (n < (0 : Int)) = false) → (((decide ((64 : Int) < n) = true) → ((sumR n R = []) ∧ (((1 : Int) = sumE n R) ∧ (True)))) ∧ ((decide ((64 : Int) < n) = false) → (Ob (((n = n) ∧ (((0 : Int) ≤ n) ∧ ((n * (16 : Int) ≤ (1099511627776 : Int)) ∧ (n ≤ (1099511627776 : Int)))))) ∧ ((∃ (x1 : Nat), ((n = n) ∧ ((R = R) ∧ (((↑R.length : Int) = (↑R.length : Int)) ∧ (((0 : Int) = (↑x1 : Int)) ∧ ((List.replicate n.toNat (SV.agg [SV.int IntKind.i64 (0 : Int), SV.int IntKind.i64 (0 : Int)]) = mkR n.toNat (sc R (0 : Nat) x1) (sc R (1 : Nat) x1)) ∧ (((x1 ≤ R.length) ∧ (((0 : Int) ≤ n) ∧ ((n ≤ (64 : Int)) ∧ (feN (stE R n) x1 = (0 : Int))))) ∧ ((True) ∧ (True))))))))) ∧ (∀ (x2 : Nat), (((x2 ≤ R.length) ∧ (((0 : Int) ≤ n) ∧ ((n ≤ (64 : Int)) ∧ (feN (stE R n) x2 = (0 : Int))))) → (((decide ((↑x2 : Int) < (↑R.length : Int)) = true) → (Ob ((((0 : Int) ≤ (↑x2 : Int)) ∧ ((↑x2 : Int) < (↑R.length : Int)))) ∧ ((((!decide ((↑(elCell R x2 (0 : Nat)).toSl.length : Int) = n)) = true) → ((sumR n R = []) ∧ (((3 : Int) = sumE n R) ∧ (True)))) ∧ (((!decide ((↑(elCell R x2 (0 : Nat)).toSl.length : Int) = n)) = false) → ((∃ (x3 : Nat), ((n = n) ∧ (((elCell R x2 (0 : Nat)).toSl = rwA R x2) ∧ ((R = R) ∧ (((↑R.length : Int) = (↑R.length : Int)) ∧ (((↑x2 : Int) = (↑x2 : Int)) ∧ (((↑(elCell R x2 (0 : Nat)).toSl.length : Int) = (↑(rwA R x2).length : Int)) ∧ (((0 : Int) = (↑x3 : Int)) ∧ ((mkR n.toNat (sc R (0 : Nat) x2) (sc R (1 : Nat) x2) = mkR n.toNat (fun i => if i < x3 then sc R (0 : Nat) (x2 + (1 : Nat)) i else sc R (0 : Nat) x2 i) fun i => if i < x3 then sc R (1 : Nat) (x2 + (1 : Nat)) i else sc R (1 : Nat) x2 i) ∧ (((x3 ≤ (rwA R x2).length) ∧ (((↑(rwA R x2).length : Int) = n) ∧ (rowB R x2 x3 = true))) ∧ ((True) ∧ (True)))))))))))) ∧ (∀ (x4 : Nat), (((x4 ≤ (rwA R x2).length) ∧ (((↑(rwA R x2).length : Int) = n) ∧ (rowB R x2 x4 = true))) → (((decide ((↑x4 : Int) < (↑(rwA R x2).length : Int)) = true) → (Ob ((((0 : Int) ≤ (↑x4 : Int)) ∧ ((↑x4 : Int) < (↑(mkR n.toNat (fun i => if i < x4 then sc R (0 : Nat) (x2 + (1 : Nat)) i else sc R (0 : Nat) x2 i) fun i => if i < x4 then sc R (1 : Nat) (x2 + (1 : Nat)) i else sc R (1 : Nat) x2 i).length : Int)))) ∧ (Ob ((x4 < (mkR n.toNat (fun i => if i < x4 then sc R (0 : Nat) (x2 + (1 : Nat)) i else sc R (0 : Nat) x2 i) fun i => if i < x4 then sc R (1 : Nat) (x2 + (1 : Nat)) i else sc R (1 : Nat) x2 i).length)) ∧ (Ob ((((0 : Int) ≤ (↑x4 : Int)) ∧ ((↑x4 : Int) < (↑(rwA R x2).length : Int)))) ∧ (Ob (((2 : Nat) ≤ (9000000000000000000 : Nat))) ∧ ((((!decide (chkE (totB [SV.agg [SV.int IntKind.i64 (elCell (mkR n.toNat (fun i => if i < x4 then sc R (0 : Nat) (x2 + (1 : Nat)) i else sc R (0 : Nat) x2 i) fun i => if i < x4 then sc R (1 : Nat) (x2 + (1 : Nat)) i else sc R (1 : Nat) x2 i) x4 (0 : Nat)).toInt, SV.int IntKind.i64 (elCell (mkR n.toNat (fun i => if i < x4 then sc R (0 : Nat) (x2 + (1 : Nat)) i else sc R (0 : Nat) x2 i) fun i => if i < x4 then sc R (1 : Nat) (x2 + (1 : Nat)) i else sc R (1 : Nat) x2 i) x4 (1 : Nat)).toInt], SV.agg [SV.int IntKind.i64 (elCell (rwA R x2) x4 (0 : Nat)).toInt, SV.int IntKind.i64 (elCell (rwA R x2) x4 (1 : Nat)).toInt]] (2 : Nat)) = (0 : Int))) = true) → ((sumR n R = []) ∧ ((chkE (totB [SV.agg [SV.int IntKind.i64 (elCell (mkR n.toNat (fun i => if i < x4 then sc R (0 : Nat) (x2 + (1 : Nat)) i else sc R (0 : Nat) x2 i) fun i => if i < x4 then sc R (1 : Nat) (x2 + (1 : Nat)) i else sc R (1 : Nat) x2 i) x4 (0 : Nat)).toInt, SV.int IntKind.i64 (elCell (mkR n.toNat (fun i => if i < x4 then sc R (0 : Nat) (x2 + (1 : Nat)) i else sc R (0 : Nat) x2 i) fun i => if i < x4 then sc R (1 : Nat) (x2 + (1 : Nat)) i else sc R (1 : Nat) x2 i) x4 (1 : Nat)).toInt], SV.agg [SV.int IntKind.i64 (elCell (rwA R x2) x4 (0 : Nat)).toInt, SV.int IntKind.i64 (elCell (rwA R x2) x4 (1 : Nat)).toInt]] (2 : Nat)) = sumE n R) ∧ (True)))) ∧ (((!decide (chkE (totB [SV.agg [SV.int IntKind.i64 (elCell (mkR n.toNat (fun i => if i < x4 then sc R (0 : Nat) (x2 + (1 : Nat)) i else sc R (0 : Nat) x2 i) fun i => if i < x4 then sc R (1 : Nat) (x2 + (1 : Nat)) i else sc R (1 : Nat) x2 i) x4 (0 : Nat)).toInt, SV.int IntKind.i64 (elCell (mkR n.toNat (fun i => if i < x4 then sc R (0 : Nat) (x2 + (1 : Nat)) i else sc R (0 : Nat) x2 i) fun i => if i < x4 then sc R (1 : Nat) (x2 + (1 : Nat)) i else sc R (1 : Nat) x2 i) x4 (1 : Nat)).toInt], SV.agg [SV.int IntKind.i64 (elCell (rwA R x2) x4 (0 : Nat)).toInt, SV.int IntKind.i64 (elCell (rwA R x2) x4 (1 : Nat)).toInt]] (2 : Nat)) = (0 : Int))) = false) → (Ob ((((0 : Int) ≤ (↑x4 : Int)) ∧ ((↑x4 : Int) < (↑(mkR n.toNat (fun i => if i < x4 then sc R (0 : Nat) (x2 + (1 : Nat)) i else sc R (0 : Nat) x2 i) fun i => if i < x4 then sc R (1 : Nat) (x2 + (1 : Nat)) i else sc R (1 : Nat) x2 i).length : Int)))) ∧ (Ob ((x4 < (mkR n.toNat (fun i => if i < x4 then sc R (0 : Nat) (x2 + (1 : Nat)) i else sc R (0 : Nat) x2 i) fun i => if i < x4 then sc R (1 : Nat) (x2 + (1 : Nat)) i else sc R (1 : Nat) x2 i).length)) ∧ (∃ (x5 : Nat), ((n = n) ∧ ((rwA R x2 = rwA R x2) ∧ ((R = R) ∧ (((↑R.length : Int) = (↑R.length : Int)) ∧ (((↑x2 : Int) = (↑x2 : Int)) ∧ (((↑(rwA R x2).length : Int) = (↑(rwA R x2).length : Int)) ∧ ((IntKind.i64.wrap ((↑x4 : Int) + (1 : Int)) = (↑x5 : Int)) ∧ (((mkR n.toNat (fun i => if i < x4 then sc R (0 : Nat) (x2 + (1 : Nat)) i else sc R (0 : Nat) x2 i) fun i => if i < x4 then sc R (1 : Nat) (x2 + (1 : Nat)) i else sc R (1 : Nat) x2 i).set x4 (SV.agg (setL ((mkR n.toNat (fun i => if i < x4 then sc R (0 : Nat) (x2 + (1 : Nat)) i else sc R (0 : Nat) x2 i) fun i => if i < x4 then sc R (1 : Nat) (x2 + (1 : Nat)) i else sc R (1 : Nat) x2 i).getD x4 SV.any).cells (0 : Nat) [SV.int IntKind.i64 (totV [SV.agg [SV.int IntKind.i64 (elCell (mkR n.toNat (fun i => if i < x4 then sc R (0 : Nat) (x2 + (1 : Nat)) i else sc R (0 : Nat) x2 i) fun i => if i < x4 then sc R (1 : Nat) (x2 + (1 : Nat)) i else sc R (1 : Nat) x2 i) x4 (0 : Nat)).toInt, SV.int IntKind.i64 (elCell (mkR n.toNat (fun i => if i < x4 then sc R (0 : Nat) (x2 + (1 : Nat)) i else sc R (0 : Nat) x2 i) fun i => if i < x4 then sc R (1 : Nat) (x2 + (1 : Nat)) i else sc R (1 : Nat) x2 i) x4 (1 : Nat)).toInt], SV.agg [SV.int IntKind.i64 (elCell (rwA R x2) x4 (0 : Nat)).toInt, SV.int IntKind.i64 (elCell (rwA R x2) x4 (1 : Nat)).toInt]] (0 : Nat)), SV.int IntKind.i64 (totV [SV.agg [SV.int IntKind.i64 (elCell (mkR n.toNat (fun i => if i < x4 then sc R (0 : Nat) (x2 + (1 : Nat)) i else sc R (0 : Nat) x2 i) fun i => if i < x4 then sc R (1 : Nat) (x2 + (1 : Nat)) i else sc R (1 : Nat) x2 i) x4 (0 : Nat)).toInt, SV.int IntKind.i64 (elCell (mkR n.toNat (fun i => if i < x4 then sc R (0 : Nat) (x2 + (1 : Nat)) i else sc R (0 : Nat) x2 i) fun i => if i < x4 then sc R (1 : Nat) (x2 + (1 : Nat)) i else sc R (1 : Nat) x2 i) x4 (1 : Nat)).toInt], SV.agg [SV.int IntKind.i64 (elCell (rwA R x2) x4 (0 : Nat)).toInt, SV.int IntKind.i64 (elCell (rwA R x2) x4 (1 : Nat)).toInt]] (1 : Nat))])) = mkR n.toNat (fun i => if i < x5 then sc R (0 : Nat) (x2 + (1 : Nat)) i else sc R (0 : Nat) x2 i) fun i => if i < x5 then sc R (1 : Nat) (x2 + (1 : Nat)) i else sc R (1 : Nat) x2 i) ∧ (((x5 ≤ (rwA R x2).length) ∧ (((↑(rwA R x2).length : Int) = n) ∧ (rowB R x2 x5 = true))) ∧ (((rwA R x2).length - x5 < (rwA R x2).length - x4) ∧ (True))))))))))))))))))))) ∧ ((decide ((↑x4 : Int) < (↑(rwA R x2).length : Int)) = false) → (∃ (x6 : Nat), ((n = n) ∧ ((R = R) ∧ (((↑R.length : Int) = (↑R.length : Int)) ∧ ((IntKind.i64.wrap ((↑x2 : Int) + (1 : Int)) = (↑x6 : Int)) ∧ (((mkR n.toNat (fun i => if i < x4 then sc R (0 : Nat) (x2 + (1 : Nat)) i else sc R (0 : Nat) x2 i) fun i => if i < x4 then sc R (1 : Nat) (x2 + (1 : Nat)) i else sc R (1 : Nat) x2 i) = mkR n.toNat (sc R (0 : Nat) x6) (sc R (1 : Nat) x6)) ∧ (((x6 ≤ R.length) ∧ (((0 : Int) ≤ n) ∧ ((n ≤ (64 : Int)) ∧ (feN (stE R n) x6 = (0 : Int))))) ∧ ((R.length - x6 < R.length - x2) ∧ (True)))))))))))))))))) ∧ ((decide ((↑x2 : Int) < (↑R.length : Int)) = false) → ((mkR n.toNat (sc R (0 : Nat) x2) (sc R (1 : Nat) x2) = sumR n R) ∧ (((0 : Int) = sumE n R) ∧ (True)))))))))))))) := by kernel_rfl
def sh_spost : List SV → Option ((List SV) × (List SV))
  | [A', B'] => (match slOf [.int .i64, .int .i64] A' with | some A => (match slOf [.int .i64, .int .i64] B' with | some B => some (A, B) | _ => none) | _ => none)
  | _ => none
def em_spost : (List SV) × (List SV) → List SV := fun (A, B) => [.sl [.int .i64, .int .i64] A, .sl [.int .i64, .int .i64] B]
theorem sh_spost_le : ∀ us a, sh_spost us = some a → leL us (em_spost a) := by
  intro us a h
  unfold sh_spost at h
  split at h
  · split at h
    · split at h
      · cases h; exact (.cons (.sl (by assumption)) (.cons (.sl (by assumption)) .nil))
      · cases h
    · cases h
  · cases h
def spostC : Con := conOf sh_spost (fun (A, B) => some (Ob (A.length ≤ 1000000000 ∧ B.length ≤ 1000000000))) (fun (A, B) => .tup [.sl shK (addR A B), .int .i64 (postE A B)])
set_option maxRecDepth 100000 in
theorem vc_spost (A : List SV) (B : List SV) : (wpF ⟨19, tyT, [(31, ssumC)], false, 0, [], false⟩ (noAnn) [] Try.f42 (em_spost (A, B)) (.tup [.sl shK (addR A B), .int .i64 (postE A B)])) = (((((!decide ((↑A.length : Int) = (↑B.length : Int))) = true) → ((addR A B = []) ∧ (((3 : Int) = postE A B) ∧ (True)))) ∧ (((!decide ((↑A.length : Int) = (↑B.length : Int))) = false) → (Ob (((in64 (↑A.length : Int)) ∧ ((2 : Nat) ≤ (1000000000 : Nat)))) ∧ ((sumR (↑A.length : Int) [SV.sl [CK.int IntKind.i64, CK.int IntKind.i64] A, SV.sl [CK.int IntKind.i64, CK.int IntKind.i64] B] = addR A B) ∧ ((sumE (↑A.length : Int) [SV.sl [CK.int IntKind.i64, CK.int IntKind.i64] A, SV.sl [CK.int IntKind.i64, CK.int IntKind.i64] B] = postE A B) ∧ (True))))))) := by kernel_rfl
def sh_clS : List SV → Option (List SV)
  | [l'] => (match slOf [.int .i64, .int .i64] l' with | some l => some l | _ => none)
  | _ => none
def em_clS : List SV → List SV := fun l => [.sl [.int .i64, .int .i64] l]
theorem sh_clS_le : ∀ us a, sh_clS us = some a → leL us (em_clS a) := by
  intro us a h
  unfold sh_clS at h
  split at h
  · split at h
    · cases h; exact (.cons (.sl (by assumption)) .nil)
    · cases h
  · cases h
def clSC : Con := conOf sh_clS (fun l => some (Ob (l.length ≤ 1000000000))) (fun l => .sl shK l)
set_option maxRecDepth 100000 in
theorem vc_clS (l : List SV) : (wpF ⟨8, tyT, [], false, 0, [], false⟩ (noAnn) [] Try.f22 (em_clS l) (.sl shK l)) = ((((l = []) → ((l = []) ∧ (True))) ∧ (Ob (((((0 : Nat) + l.length) * (16 : Nat) ≤ (1099511627776 : Nat)) ∧ ((0 : Nat) + l.length ≤ (1099511627776 : Nat)))) ∧ (([] ++ l = l) ∧ (True))))) := by kernel_rfl
def sh_clT : List SV → Option (List SV)
  | [l'] => (match slOf [.int .i64, .int .i64, .int .i64, .int .i64, .int .i64, .int .i64] l' with | some l => some l | _ => none)
  | _ => none
def em_clT : List SV → List SV := fun l => [.sl [.int .i64, .int .i64, .int .i64, .int .i64, .int .i64, .int .i64] l]
theorem sh_clT_le : ∀ us a, sh_clT us = some a → leL us (em_clT a) := by
  intro us a h
  unfold sh_clT at h
  split at h
  · split at h
    · cases h; exact (.cons (.sl (by assumption)) .nil)
    · cases h
  · cases h
def clTC : Con := conOf sh_clT (fun l => some (Ob (l.length ≤ 1000000000))) (fun l => .sl tkK l)
set_option maxRecDepth 100000 in
theorem vc_clT (l : List SV) : (wpF ⟨8, tyT, [], false, 0, [], false⟩ (noAnn) [] Try.f23 (em_clT l) (.sl tkK l)) = ((((l = []) → ((l = []) ∧ (True))) ∧ (Ob (((((0 : Nat) + l.length) * (48 : Nat) ≤ (1099511627776 : Nat)) ∧ ((0 : Nat) + l.length ≤ (1099511627776 : Nat)))) ∧ (([] ++ l = l) ∧ (True))))) := by kernel_rfl
def sh_clR : List SV → Option (List SV)
  | [l'] => (match slOf [.int .i64, .int .i64] l' with | some l => some l | _ => none)
  | _ => none
def em_clR : List SV → List SV := fun l => [.sl [.int .i64, .int .i64] l]
theorem sh_clR_le : ∀ us a, sh_clR us = some a → leL us (em_clR a) := by
  intro us a h
  unfold sh_clR at h
  split at h
  · split at h
    · cases h; exact (.cons (.sl (by assumption)) .nil)
    · cases h
  · cases h
def clRC : Con := conOf sh_clR (fun l => some (Ob (l.length ≤ 1000000000))) (fun l => .sl shK l)
set_option maxRecDepth 100000 in
theorem vc_clR (l : List SV) : (wpF ⟨8, tyT, [], false, 0, [], false⟩ (noAnn) [] Try.f37 (em_clR l) (.sl shK l)) = ((((l = []) → ((l = []) ∧ (True))) ∧ (Ob (((((0 : Nat) + l.length) * (16 : Nat) ≤ (1099511627776 : Nat)) ∧ ((0 : Nat) + l.length ≤ (1099511627776 : Nat)))) ∧ (([] ++ l = l) ∧ (True))))) := by kernel_rfl
def sh_copied : List SV → Option (Int × Int × Int × Int × Int × Int × (List SV) × Int × (List SV) × Int)
  | [.agg [.int .i64 p, .int .i64 c, .int .i64 t, .int .i64 s, .int .i64 x, .int .i64 h, S', .int .i64 n, T', .int .i64 y]] => (match slOf [.int .i64, .int .i64] S' with | some S => (match slOf [.int .i64, .int .i64, .int .i64, .int .i64, .int .i64, .int .i64] T' with | some T => some (p, c, t, s, x, h, S, n, T, y) | _ => none) | _ => none)
  | _ => none
def em_copied : Int × Int × Int × Int × Int × Int × (List SV) × Int × (List SV) × Int → List SV := fun (p, c, t, s, x, h, S, n, T, y) => [.agg [.int .i64 p, .int .i64 c, .int .i64 t, .int .i64 s, .int .i64 x, .int .i64 h, .sl [.int .i64, .int .i64] S, .int .i64 n, .sl [.int .i64, .int .i64, .int .i64, .int .i64, .int .i64, .int .i64] T, .int .i64 y]]
theorem sh_copied_le : ∀ us a, sh_copied us = some a → leL us (em_copied a) := by
  intro us a h
  unfold sh_copied at h
  split at h
  · split at h
    · split at h
      · cases h; exact (.cons (.agg (.cons (.refl _) (.cons (.refl _) (.cons (.refl _) (.cons (.refl _) (.cons (.refl _) (.cons (.refl _) (.cons (.sl (by assumption)) (.cons (.refl _) (.cons (.sl (by assumption)) (.cons (.refl _) .nil))))))))))) .nil)
      · cases h
    · cases h
  · cases h
def copiedC : Con := conOf sh_copied (fun (p, c, t, s, x, h, S, n, T, y) => some (Ob (S.length ≤ 1000000000 ∧ T.length ≤ 1000000000))) (fun (p, c, t, s, x, h, S, n, T, y) => .agg [.int .i64 p, .int .i64 c, .int .i64 t, .int .i64 s, .int .i64 x, .int .i64 h, .sl shK S, .int .i64 n, .sl tkK T, .int .i64 y])
set_option maxRecDepth 100000 in
theorem vc_copied (p : Int) (c : Int) (t : Int) (s : Int) (x : Int) (h : Int) (S : List SV) (n : Int) (T : List SV) (y : Int) : (wpF ⟨12, tyT, [(22, clSC), (23, clTC)], false, 0, [], false⟩ (noAnn) [] Try.f34 (em_copied (p, c, t, s, x, h, S, n, T, y)) (.agg [.int .i64 p, .int .i64 c, .int .i64 t, .int .i64 s, .int .i64 x, .int .i64 h, .sl shK S, .int .i64 n, .sl tkK T, .int .i64 y])) = ((Ob ((S.length ≤ (1000000000 : Nat))) ∧ (Ob ((T.length ≤ (1000000000 : Nat))) ∧ ((p = p) ∧ ((c = c) ∧ ((t = t) ∧ ((s = s) ∧ ((x = x) ∧ ((h = h) ∧ ((S = S) ∧ ((n = n) ∧ ((T = T) ∧ ((y = y) ∧ (True)))))))))))))) := by kernel_rfl
def sh_eqR_ : List SV → Option ((List SV) × (List SV))
  | [a', b'] => (match slOf [.int .i64, .int .i64] a' with | some a => (match slOf [.int .i64, .int .i64] b' with | some b => some (a, b) | _ => none) | _ => none)
  | _ => none
def em_eqR_ : (List SV) × (List SV) → List SV := fun (a, b) => [.sl [.int .i64, .int .i64] a, .sl [.int .i64, .int .i64] b]
theorem sh_eqR__le : ∀ us a, sh_eqR_ us = some a → leL us (em_eqR_ a) := by
  intro us a h
  unfold sh_eqR_ at h
  split at h
  · split at h
    · split at h
      · cases h; exact (.cons (.sl (by assumption)) (.cons (.sl (by assumption)) .nil))
      · cases h
    · cases h
  · cases h
def eqR_C : Con := conOf sh_eqR_ (fun (a, b) => some (Ob (a.length ≤ 1000000000 ∧ b.length ≤ 1000000000))) (fun (a, b) => .bool (eqS_ 2 a b))
set_option maxRecDepth 100000 in
theorem vc_eqR_ (a : List SV) (b : List SV) : (wpF ⟨26, tyT, [], false, 0, [], false⟩ ((eq_an shK 2 a b)) [] Try.f33 (em_eqR_ (a, b)) (.bool (eqS_ 2 a b))) = (((((!decide ((↑a.length : Int) = (↑b.length : Int))) = true) → ((eqS_ (2 : Nat) a b = false) ∧ (True))) ∧ (((!decide ((↑a.length : Int) = (↑b.length : Int))) = false) → ((∃ (x1 : Nat), ((a = a) ∧ ((b = b) ∧ (((↑a.length : Int) = (↑a.length : Int)) ∧ (((0 : Int) = (↑x1 : Int)) ∧ (((x1 ≤ a.length) ∧ ((a.length = b.length) ∧ ((a.length ≤ (1000000000 : Nat)) ∧ (eqRw (2 : Nat) a b x1 = true)))) ∧ ((True) ∧ (True)))))))) ∧ (∀ (x2 : Nat), (((x2 ≤ a.length) ∧ ((a.length = b.length) ∧ ((a.length ≤ (1000000000 : Nat)) ∧ (eqRw (2 : Nat) a b x2 = true)))) → (((decide ((↑x2 : Int) < (↑a.length : Int)) = true) → (Ob ((((0 : Int) ≤ (↑x2 : Int)) ∧ ((↑x2 : Int) < (↑a.length : Int)))) ∧ (Ob ((((0 : Int) ≤ (↑x2 : Int)) ∧ ((↑x2 : Int) < (↑b.length : Int)))) ∧ ((((!(decide ((elCell a x2 (0 : Nat)).toInt = (elCell b x2 (0 : Nat)).toInt) && decide ((elCell a x2 (1 : Nat)).toInt = (elCell b x2 (1 : Nat)).toInt))) = true) → ((eqS_ (2 : Nat) a b = false) ∧ (True))) ∧ (((!(decide ((elCell a x2 (0 : Nat)).toInt = (elCell b x2 (0 : Nat)).toInt) && decide ((elCell a x2 (1 : Nat)).toInt = (elCell b x2 (1 : Nat)).toInt))) = false) → (∃ (x3 : Nat), ((a = a) ∧ ((b = b) ∧ (((↑a.length : Int) = (↑a.length : Int)) ∧ ((IntKind.i64.wrap ((↑x2 : Int) + (1 : Int)) = (↑x3 : Int)) ∧ (((x3 ≤ a.length) ∧ ((a.length = b.length) ∧ ((a.length ≤ (1000000000 : Nat)) ∧ (eqRw (2 : Nat) a b x3 = true)))) ∧ ((a.length - x3 < a.length - x2) ∧ (True))))))))))))) ∧ ((decide ((↑x2 : Int) < (↑a.length : Int)) = false) → ((eqS_ (2 : Nat) a b = true) ∧ (True)))))))))) := by kernel_rfl
def sh_eqSh : List SV → Option ((List SV) × (List SV))
  | [a', b'] => (match slOf [.int .i64, .int .i64] a' with | some a => (match slOf [.int .i64, .int .i64] b' with | some b => some (a, b) | _ => none) | _ => none)
  | _ => none
def em_eqSh : (List SV) × (List SV) → List SV := fun (a, b) => [.sl [.int .i64, .int .i64] a, .sl [.int .i64, .int .i64] b]
theorem sh_eqSh_le : ∀ us a, sh_eqSh us = some a → leL us (em_eqSh a) := by
  intro us a h
  unfold sh_eqSh at h
  split at h
  · split at h
    · split at h
      · cases h; exact (.cons (.sl (by assumption)) (.cons (.sl (by assumption)) .nil))
      · cases h
    · cases h
  · cases h
def eqShC : Con := conOf sh_eqSh (fun (a, b) => some (Ob (a.length ≤ 1000000000 ∧ b.length ≤ 1000000000))) (fun (a, b) => .bool (eqS_ 2 a b))
set_option maxRecDepth 100000 in
theorem vc_eqSh (a : List SV) (b : List SV) : (wpF ⟨26, tyT, [], false, 0, [], false⟩ ((eq_an shK 2 a b)) [] Try.f35 (em_eqSh (a, b)) (.bool (eqS_ 2 a b))) = (((((!decide ((↑a.length : Int) = (↑b.length : Int))) = true) → ((eqS_ (2 : Nat) a b = false) ∧ (True))) ∧ (((!decide ((↑a.length : Int) = (↑b.length : Int))) = false) → ((∃ (x1 : Nat), ((a = a) ∧ ((b = b) ∧ (((↑a.length : Int) = (↑a.length : Int)) ∧ (((0 : Int) = (↑x1 : Int)) ∧ (((x1 ≤ a.length) ∧ ((a.length = b.length) ∧ ((a.length ≤ (1000000000 : Nat)) ∧ (eqRw (2 : Nat) a b x1 = true)))) ∧ ((True) ∧ (True)))))))) ∧ (∀ (x2 : Nat), (((x2 ≤ a.length) ∧ ((a.length = b.length) ∧ ((a.length ≤ (1000000000 : Nat)) ∧ (eqRw (2 : Nat) a b x2 = true)))) → (((decide ((↑x2 : Int) < (↑a.length : Int)) = true) → (Ob ((((0 : Int) ≤ (↑x2 : Int)) ∧ ((↑x2 : Int) < (↑a.length : Int)))) ∧ (Ob ((((0 : Int) ≤ (↑x2 : Int)) ∧ ((↑x2 : Int) < (↑b.length : Int)))) ∧ ((((!(decide ((elCell a x2 (0 : Nat)).toInt = (elCell b x2 (0 : Nat)).toInt) && decide ((elCell a x2 (1 : Nat)).toInt = (elCell b x2 (1 : Nat)).toInt))) = true) → ((eqS_ (2 : Nat) a b = false) ∧ (True))) ∧ (((!(decide ((elCell a x2 (0 : Nat)).toInt = (elCell b x2 (0 : Nat)).toInt) && decide ((elCell a x2 (1 : Nat)).toInt = (elCell b x2 (1 : Nat)).toInt))) = false) → (∃ (x3 : Nat), ((a = a) ∧ ((b = b) ∧ (((↑a.length : Int) = (↑a.length : Int)) ∧ ((IntKind.i64.wrap ((↑x2 : Int) + (1 : Int)) = (↑x3 : Int)) ∧ (((x3 ≤ a.length) ∧ ((a.length = b.length) ∧ ((a.length ≤ (1000000000 : Nat)) ∧ (eqRw (2 : Nat) a b x3 = true)))) ∧ ((a.length - x3 < a.length - x2) ∧ (True))))))))))))) ∧ ((decide ((↑x2 : Int) < (↑a.length : Int)) = false) → ((eqS_ (2 : Nat) a b = true) ∧ (True)))))))))) := by kernel_rfl
def sh_eqTk : List SV → Option ((List SV) × (List SV))
  | [a', b'] => (match slOf [.int .i64, .int .i64, .int .i64, .int .i64, .int .i64, .int .i64] a' with | some a => (match slOf [.int .i64, .int .i64, .int .i64, .int .i64, .int .i64, .int .i64] b' with | some b => some (a, b) | _ => none) | _ => none)
  | _ => none
def em_eqTk : (List SV) × (List SV) → List SV := fun (a, b) => [.sl [.int .i64, .int .i64, .int .i64, .int .i64, .int .i64, .int .i64] a, .sl [.int .i64, .int .i64, .int .i64, .int .i64, .int .i64, .int .i64] b]
theorem sh_eqTk_le : ∀ us a, sh_eqTk us = some a → leL us (em_eqTk a) := by
  intro us a h
  unfold sh_eqTk at h
  split at h
  · split at h
    · split at h
      · cases h; exact (.cons (.sl (by assumption)) (.cons (.sl (by assumption)) .nil))
      · cases h
    · cases h
  · cases h
def eqTkC : Con := conOf sh_eqTk (fun (a, b) => some (Ob (a.length ≤ 1000000000 ∧ b.length ≤ 1000000000))) (fun (a, b) => .bool (eqS_ 6 a b))
set_option maxRecDepth 100000 in
theorem vc_eqTk (a : List SV) (b : List SV) : (wpF ⟨26, tyT, [], false, 0, [], false⟩ ((eq_an tkK 6 a b)) [] Try.f36 (em_eqTk (a, b)) (.bool (eqS_ 6 a b))) = (((((!decide ((↑a.length : Int) = (↑b.length : Int))) = true) → ((eqS_ (6 : Nat) a b = false) ∧ (True))) ∧ (((!decide ((↑a.length : Int) = (↑b.length : Int))) = false) → ((∃ (x1 : Nat), ((a = a) ∧ ((b = b) ∧ (((↑a.length : Int) = (↑a.length : Int)) ∧ (((0 : Int) = (↑x1 : Int)) ∧ (((x1 ≤ a.length) ∧ ((a.length = b.length) ∧ ((a.length ≤ (1000000000 : Nat)) ∧ (eqRw (6 : Nat) a b x1 = true)))) ∧ ((True) ∧ (True)))))))) ∧ (∀ (x2 : Nat), (((x2 ≤ a.length) ∧ ((a.length = b.length) ∧ ((a.length ≤ (1000000000 : Nat)) ∧ (eqRw (6 : Nat) a b x2 = true)))) → (((decide ((↑x2 : Int) < (↑a.length : Int)) = true) → (Ob ((((0 : Int) ≤ (↑x2 : Int)) ∧ ((↑x2 : Int) < (↑a.length : Int)))) ∧ (Ob ((((0 : Int) ≤ (↑x2 : Int)) ∧ ((↑x2 : Int) < (↑b.length : Int)))) ∧ ((((!(decide ((elCell a x2 (0 : Nat)).toInt = (elCell b x2 (0 : Nat)).toInt) && (decide ((elCell a x2 (1 : Nat)).toInt = (elCell b x2 (1 : Nat)).toInt) && (decide ((elCell a x2 (2 : Nat)).toInt = (elCell b x2 (2 : Nat)).toInt) && (decide ((elCell a x2 (3 : Nat)).toInt = (elCell b x2 (3 : Nat)).toInt) && (decide ((elCell a x2 (4 : Nat)).toInt = (elCell b x2 (4 : Nat)).toInt) && decide ((elCell a x2 (5 : Nat)).toInt = (elCell b x2 (5 : Nat)).toInt))))))) = true) → ((eqS_ (6 : Nat) a b = false) ∧ (True))) ∧ (((!(decide ((elCell a x2 (0 : Nat)).toInt = (elCell b x2 (0 : Nat)).toInt) && (decide ((elCell a x2 (1 : Nat)).toInt = (elCell b x2 (1 : Nat)).toInt) && (decide ((elCell a x2 (2 : Nat)).toInt = (elCell b x2 (2 : Nat)).toInt) && (decide ((elCell a x2 (3 : Nat)).toInt = (elCell b x2 (3 : Nat)).toInt) && (decide ((elCell a x2 (4 : Nat)).toInt = (elCell b x2 (4 : Nat)).toInt) && decide ((elCell a x2 (5 : Nat)).toInt = (elCell b x2 (5 : Nat)).toInt))))))) = false) → (∃ (x3 : Nat), ((a = a) ∧ ((b = b) ∧ (((↑a.length : Int) = (↑a.length : Int)) ∧ ((IntKind.i64.wrap ((↑x2 : Int) + (1 : Int)) = (↑x3 : Int)) ∧ (((x3 ≤ a.length) ∧ ((a.length = b.length) ∧ ((a.length ≤ (1000000000 : Nat)) ∧ (eqRw (6 : Nat) a b x3 = true)))) ∧ ((a.length - x3 < a.length - x2) ∧ (True))))))))))))) ∧ ((decide ((↑x2 : Int) < (↑a.length : Int)) = false) → ((eqS_ (6 : Nat) a b = true) ∧ (True)))))))))) := by kernel_rfl
def sh_ysame : List SV → Option (Int × Int × Int × Int × Int × (List SV) × Int × Int × Int × Int × Int × Int × Int × Int × (List SV) × Int × Int × Int)
  | [.agg [.int .i64 c, .int .i64 t, .int .i64 s, .int .i64 x, .int .i64 h, S', .int .i64 n, .int .i64 k, .int .i64 y], .agg [.int .i64 c', .int .i64 t', .int .i64 s', .int .i64 x', .int .i64 h', S'', .int .i64 n', .int .i64 k', .int .i64 y']] => (match slOf [.int .i64, .int .i64] S' with | some S => (match slOf [.int .i64, .int .i64] S'' with | some S' => some (c, t, s, x, h, S, n, k, y, c', t', s', x', h', S', n', k', y') | _ => none) | _ => none)
  | _ => none
def em_ysame : Int × Int × Int × Int × Int × (List SV) × Int × Int × Int × Int × Int × Int × Int × Int × (List SV) × Int × Int × Int → List SV := fun (c, t, s, x, h, S, n, k, y, c', t', s', x', h', S', n', k', y') => [.agg [.int .i64 c, .int .i64 t, .int .i64 s, .int .i64 x, .int .i64 h, .sl [.int .i64, .int .i64] S, .int .i64 n, .int .i64 k, .int .i64 y], .agg [.int .i64 c', .int .i64 t', .int .i64 s', .int .i64 x', .int .i64 h', .sl [.int .i64, .int .i64] S', .int .i64 n', .int .i64 k', .int .i64 y']]
theorem sh_ysame_le : ∀ us a, sh_ysame us = some a → leL us (em_ysame a) := by
  intro us a h
  unfold sh_ysame at h
  split at h
  · split at h
    · split at h
      · cases h; exact (.cons (.agg (.cons (.refl _) (.cons (.refl _) (.cons (.refl _) (.cons (.refl _) (.cons (.refl _) (.cons (.sl (by assumption)) (.cons (.refl _) (.cons (.refl _) (.cons (.refl _) .nil)))))))))) (.cons (.agg (.cons (.refl _) (.cons (.refl _) (.cons (.refl _) (.cons (.refl _) (.cons (.refl _) (.cons (.sl (by assumption)) (.cons (.refl _) (.cons (.refl _) (.cons (.refl _) .nil)))))))))) .nil))
      · cases h
    · cases h
  · cases h
def ysameC : Con := conOf sh_ysame (fun (c, t, s, x, h, S, n, k, y, c', t', s', x', h', S', n', k', y') => some (Ob (S.length ≤ 1000000000 ∧ S'.length ≤ 1000000000))) (fun (c, t, s, x, h, S, n, k, y, c', t', s', x', h', S', n', k', y') => .bool (eqT c t s x h S n k y c' t' s' x' h' S' n' k' y'))
set_option maxRecDepth 100000 in
theorem vc_ysame (c : Int) (t : Int) (s : Int) (x : Int) (h : Int) (S : List SV) (n : Int) (k : Int) (y : Int) (c' : Int) (t' : Int) (s' : Int) (x' : Int) (h' : Int) (S' : List SV) (n' : Int) (k' : Int) (y' : Int) : (wpF ⟨52, tyT, [(33, eqR_C)], false, 0, [], false⟩ (noAnn) [] Try.f14 (em_ysame (c, t, s, x, h, S, n, k, y, c', t', s', x', h', S', n', k', y')) (.bool (eqT c t s x h S n k y c' t' s' x' h' S' n' k' y'))) = (((((decide (c = c') && (decide (t = t') && decide (s = s'))) = true) → (((decide (x = x') = true) → (((decide (h = h') = true) → (Ob (((S.length ≤ (1000000000 : Nat)) ∧ (S'.length ≤ (1000000000 : Nat)))) ∧ (((eqS_ (2 : Nat) S S' = true) → (((decide (n = n') = true) → (((decide (k = k') = true) → ((decide (y = y') = eqT c t s x h S n k y c' t' s' x' h' S' n' k' y') ∧ (True))) ∧ ((decide (k = k') = false) → ((eqT c t s x h S n k y c' t' s' x' h' S' n' k' y' = false) ∧ (True))))) ∧ ((decide (n = n') = false) → ((eqT c t s x h S n k y c' t' s' x' h' S' n' k' y' = false) ∧ (True))))) ∧ ((eqS_ (2 : Nat) S S' = false) → ((eqT c t s x h S n k y c' t' s' x' h' S' n' k' y' = false) ∧ (True)))))) ∧ ((decide (h = h') = false) → ((eqT c t s x h S n k y c' t' s' x' h' S' n' k' y' = false) ∧ (True))))) ∧ ((decide (x = x') = false) → ((eqT c t s x h S n k y c' t' s' x' h' S' n' k' y' = false) ∧ (True))))) ∧ (((decide (c = c') && (decide (t = t') && decide (s = s'))) = false) → ((eqT c t s x h S n k y c' t' s' x' h' S' n' k' y' = false) ∧ (True))))) := by kernel_rfl
def sh_yadd : List SV → Option (Int × Int × Int × Int × Int × (List SV) × Int × Int × Int × Int × Int × Int × Int × Int × Int × (List SV) × Int × (List SV) × Int)
  | [.agg [.int .i64 c, .int .i64 t, .int .i64 s, .int .i64 x, .int .i64 h, A', .int .i64 n, .int .i64 k, .int .i64 y], .agg [.int .i64 p', .int .i64 c', .int .i64 t', .int .i64 s', .int .i64 x', .int .i64 h', S', .int .i64 n', T', .int .i64 y']] => (match slOf [.int .i64, .int .i64] A' with | some A => (match slOf [.int .i64, .int .i64] S' with | some S => (match slOf [.int .i64, .int .i64, .int .i64, .int .i64, .int .i64, .int .i64] T' with | some T => some (c, t, s, x, h, A, n, k, y, p', c', t', s', x', h', S, n', T, y') | _ => none) | _ => none) | _ => none)
  | _ => none
def em_yadd : Int × Int × Int × Int × Int × (List SV) × Int × Int × Int × Int × Int × Int × Int × Int × Int × (List SV) × Int × (List SV) × Int → List SV := fun (c, t, s, x, h, A, n, k, y, p', c', t', s', x', h', S, n', T, y') => [.agg [.int .i64 c, .int .i64 t, .int .i64 s, .int .i64 x, .int .i64 h, .sl [.int .i64, .int .i64] A, .int .i64 n, .int .i64 k, .int .i64 y], .agg [.int .i64 p', .int .i64 c', .int .i64 t', .int .i64 s', .int .i64 x', .int .i64 h', .sl [.int .i64, .int .i64] S, .int .i64 n', .sl [.int .i64, .int .i64, .int .i64, .int .i64, .int .i64, .int .i64] T, .int .i64 y']]
theorem sh_yadd_le : ∀ us a, sh_yadd us = some a → leL us (em_yadd a) := by
  intro us a h
  unfold sh_yadd at h
  split at h
  · split at h
    · split at h
      · split at h
        · cases h; exact (.cons (.agg (.cons (.refl _) (.cons (.refl _) (.cons (.refl _) (.cons (.refl _) (.cons (.refl _) (.cons (.sl (by assumption)) (.cons (.refl _) (.cons (.refl _) (.cons (.refl _) .nil)))))))))) (.cons (.agg (.cons (.refl _) (.cons (.refl _) (.cons (.refl _) (.cons (.refl _) (.cons (.refl _) (.cons (.refl _) (.cons (.sl (by assumption)) (.cons (.refl _) (.cons (.sl (by assumption)) (.cons (.refl _) .nil))))))))))) .nil))
        · cases h
      · cases h
    · cases h
  · cases h
def yaddC : Con := conOf sh_yadd (fun (c, t, s, x, h, A, n, k, y, p', c', t', s', x', h', S, n', T, y') => some (Ob (A.length ≤ 1000000000 ∧ S.length ≤ 1000000000 ∧ T.length ≤ 1000000000))) (fun (c, t, s, x, h, A, n, k, y, p', c', t', s', x', h', S, n', T, y') => .tup [.agg [.int .i64 (pk (addE c t s x A n k y c' t' s' x' S n' T y') c c'), .int .i64 (pk (addE c t s x A n k y c' t' s' x' S n' T y') t t'), .int .i64 (pk (addE c t s x A n k y c' t' s' x' S n' T y') s s'), .int .i64 (pk (addE c t s x A n k y c' t' s' x' S n' T y') x x'), .int .i64 (if addE c t s x A n k y c' t' s' x' S n' T y' = 0 then h' else h), .sl shK (if addE c t s x A n k y c' t' s' x' S n' T y' = 0 then addR A S else A), .int .i64 (pk (addE c t s x A n k y c' t' s' x' S n' T y') n n'), .int .i64 (pk (addE c t s x A n k y c' t' s' x' S n' T y') k (colS T 4 T.length)), .int .i64 (pk (addE c t s x A n k y c' t' s' x' S n' T y') y y')], .int .i64 (addE c t s x A n k y c' t' s' x' S n' T y')])
set_option maxRecDepth 100000 in
theorem vc_yadd (c : Int) (t : Int) (s : Int) (x : Int) (h : Int) (A : List SV) (n : Int) (k : Int) (y : Int) (p' : Int) (c' : Int) (t' : Int) (s' : Int) (x' : Int) (h' : Int) (S : List SV) (n' : Int) (T : List SV) (y' : Int) : (wpF ⟨89, tyT, [(41, baddC), (29, asumC), (39, maddC), (42, spostC)], true, 0, [], false⟩ ((add_an)) [] Try.f32 (em_yadd (c, t, s, x, h, A, n, k, y, p', c', t', s', x', h', S, n', T, y')) (.tup [.agg [.int .i64 (pk (addE c t s x A n k y c' t' s' x' S n' T y') c c'), .int .i64 (pk (addE c t s x A n k y c' t' s' x' S n' T y') t t'), .int .i64 (pk (addE c t s x A n k y c' t' s' x' S n' T y') s s'), .int .i64 (pk (addE c t s x A n k y c' t' s' x' S n' T y') x x'), .int .i64 (if addE c t s x A n k y c' t' s' x' S n' T y' = 0 then h' else h), .sl shK (if addE c t s x A n k y c' t' s' x' S n' T y' = 0 then addR A S else A), .int .i64 (pk (addE c t s x A n k y c' t' s' x' S n' T y') n n'), .int .i64 (pk (addE c t s x A n k y c' t' s' x' S n' T y') k (colS T 4 T.length)), .int .i64 (pk (addE c t s x A n k y c' t' s' x' S n' T y') y y')], .int .i64 (addE c t s x A n k y c' t' s' x' S n' T y')])) = (((((!decide (chkE (bB c t s c' t' s') = (0 : Int))) = true) → ((c = pk (addE c t s x A n k y c' t' s' x' S n' T y') c c') ∧ ((t = pk (addE c t s x A n k y c' t' s' x' S n' T y') t t') ∧ ((s = pk (addE c t s x A n k y c' t' s' x' S n' T y') s s') ∧ ((x = pk (addE c t s x A n k y c' t' s' x' S n' T y') x x') ∧ ((h = if addE c t s x A n k y c' t' s' x' S n' T y' = (0 : Int) then h' else h) ∧ ((A = if addE c t s x A n k y c' t' s' x' S n' T y' = (0 : Int) then addR A S else A) ∧ ((n = pk (addE c t s x A n k y c' t' s' x' S n' T y') n n') ∧ ((k = pk (addE c t s x A n k y c' t' s' x' S n' T y') k (colS T (4 : Nat) T.length)) ∧ ((y = pk (addE c t s x A n k y c' t' s' x' S n' T y') y y') ∧ ((chkE (bB c t s c' t' s') = addE c t s x A n k y c' t' s' x' S n' T y') ∧ (True)))))))))))) ∧ (((!decide (chkE (bB c t s c' t' s') = (0 : Int))) = false) → (Ob ((T.length ≤ (9000000000000000000 : Nat))) ∧ ((((!decide (chkE (takB T T.length) = (0 : Int))) = true) → ((c = pk (addE c t s x A n k y c' t' s' x' S n' T y') c c') ∧ ((t = pk (addE c t s x A n k y c' t' s' x' S n' T y') t t') ∧ ((s = pk (addE c t s x A n k y c' t' s' x' S n' T y') s s') ∧ ((x = pk (addE c t s x A n k y c' t' s' x' S n' T y') x x') ∧ ((h = if addE c t s x A n k y c' t' s' x' S n' T y' = (0 : Int) then h' else h) ∧ ((A = if addE c t s x A n k y c' t' s' x' S n' T y' = (0 : Int) then addR A S else A) ∧ ((n = pk (addE c t s x A n k y c' t' s' x' S n' T y') n n') ∧ ((k = pk (addE c t s x A n k y c' t' s' x' S n' T y') k (colS T (4 : Nat) T.length)) ∧ ((y = pk (addE c t s x A n k y c' t' s' x' S n' T y') y y') ∧ ((chkE (takB T T.length) = addE c t s x A n k y c' t' s' x' S n' T y') ∧ (True)))))))))))) ∧ (((!decide (chkE (takB T T.length) = (0 : Int))) = false) → (Ob ((((0 : Int) ≤ (0 : Int)) ∧ ((0 : Int) < (4 : Int)))) ∧ ((((!decide (chkE (addB x x') = (0 : Int))) = true) → ((c = pk (addE c t s x A n k y c' t' s' x' S n' T y') c c') ∧ ((t = pk (addE c t s x A n k y c' t' s' x' S n' T y') t t') ∧ ((s = pk (addE c t s x A n k y c' t' s' x' S n' T y') s s') ∧ ((x = pk (addE c t s x A n k y c' t' s' x' S n' T y') x x') ∧ ((h = if addE c t s x A n k y c' t' s' x' S n' T y' = (0 : Int) then h' else h) ∧ ((A = if addE c t s x A n k y c' t' s' x' S n' T y' = (0 : Int) then addR A S else A) ∧ ((n = pk (addE c t s x A n k y c' t' s' x' S n' T y') n n') ∧ ((k = pk (addE c t s x A n k y c' t' s' x' S n' T y') k (colS T (4 : Nat) T.length)) ∧ ((y = pk (addE c t s x A n k y c' t' s' x' S n' T y') y y') ∧ ((chkE (addB x x') = addE c t s x A n k y c' t' s' x' S n' T y') ∧ (True)))))))))))) ∧ (((!decide (chkE (addB x x') = (0 : Int))) = false) → (Ob ((((0 : Int) ≤ (1 : Int)) ∧ ((1 : Int) < (4 : Int)))) ∧ ((((!decide (chkE (addB n n') = (0 : Int))) = true) → ((c = pk (addE c t s x A n k y c' t' s' x' S n' T y') c c') ∧ ((t = pk (addE c t s x A n k y c' t' s' x' S n' T y') t t') ∧ ((s = pk (addE c t s x A n k y c' t' s' x' S n' T y') s s') ∧ ((x = pk (addE c t s x A n k y c' t' s' x' S n' T y') x x') ∧ ((h = if addE c t s x A n k y c' t' s' x' S n' T y' = (0 : Int) then h' else h) ∧ ((A = if addE c t s x A n k y c' t' s' x' S n' T y' = (0 : Int) then addR A S else A) ∧ ((n = pk (addE c t s x A n k y c' t' s' x' S n' T y') n n') ∧ ((k = pk (addE c t s x A n k y c' t' s' x' S n' T y') k (colS T (4 : Nat) T.length)) ∧ ((y = pk (addE c t s x A n k y c' t' s' x' S n' T y') y y') ∧ ((chkE (addB n n') = addE c t s x A n k y c' t' s' x' S n' T y') ∧ (True)))))))))))) ∧ (((!decide (chkE (addB n n') = (0 : Int))) = false) → (Ob ((((0 : Int) ≤ (2 : Int)) ∧ ((2 : Int) < (4 : Int)))) ∧ ((((!decide (chkE (addB k (takV T)) = (0 : Int))) = true) → ((c = pk (addE c t s x A n k y c' t' s' x' S n' T y') c c') ∧ ((t = pk (addE c t s x A n k y c' t' s' x' S n' T y') t t') ∧ ((s = pk (addE c t s x A n k y c' t' s' x' S n' T y') s s') ∧ ((x = pk (addE c t s x A n k y c' t' s' x' S n' T y') x x') ∧ ((h = if addE c t s x A n k y c' t' s' x' S n' T y' = (0 : Int) then h' else h) ∧ ((A = if addE c t s x A n k y c' t' s' x' S n' T y' = (0 : Int) then addR A S else A) ∧ ((n = pk (addE c t s x A n k y c' t' s' x' S n' T y') n n') ∧ ((k = pk (addE c t s x A n k y c' t' s' x' S n' T y') k (colS T (4 : Nat) T.length)) ∧ ((y = pk (addE c t s x A n k y c' t' s' x' S n' T y') y y') ∧ ((chkE (addB k (takV T)) = addE c t s x A n k y c' t' s' x' S n' T y') ∧ (True)))))))))))) ∧ (((!decide (chkE (addB k (takV T)) = (0 : Int))) = false) → (Ob ((((0 : Int) ≤ (3 : Int)) ∧ ((3 : Int) < (4 : Int)))) ∧ ((((!decide (chkE (addB y y') = (0 : Int))) = true) → ((c = pk (addE c t s x A n k y c' t' s' x' S n' T y') c c') ∧ ((t = pk (addE c t s x A n k y c' t' s' x' S n' T y') t t') ∧ ((s = pk (addE c t s x A n k y c' t' s' x' S n' T y') s s') ∧ ((x = pk (addE c t s x A n k y c' t' s' x' S n' T y') x x') ∧ ((h = if addE c t s x A n k y c' t' s' x' S n' T y' = (0 : Int) then h' else h) ∧ ((A = if addE c t s x A n k y c' t' s' x' S n' T y' = (0 : Int) then addR A S else A) ∧ ((n = pk (addE c t s x A n k y c' t' s' x' S n' T y') n n') ∧ ((k = pk (addE c t s x A n k y c' t' s' x' S n' T y') k (colS T (4 : Nat) T.length)) ∧ ((y = pk (addE c t s x A n k y c' t' s' x' S n' T y') y y') ∧ ((chkE (addB y y') = addE c t s x A n k y c' t' s' x' S n' T y') ∧ (True)))))))))))) ∧ (((!decide (chkE (addB y y') = (0 : Int))) = false) → (Ob (((A.length ≤ (1000000000 : Nat)) ∧ (S.length ≤ (1000000000 : Nat)))) ∧ ((((!decide (postE A S = (0 : Int))) = true) → ((c = pk (addE c t s x A n k y c' t' s' x' S n' T y') c c') ∧ ((t = pk (addE c t s x A n k y c' t' s' x' S n' T y') t t') ∧ ((s = pk (addE c t s x A n k y c' t' s' x' S n' T y') s s') ∧ ((x = pk (addE c t s x A n k y c' t' s' x' S n' T y') x x') ∧ ((h = if addE c t s x A n k y c' t' s' x' S n' T y' = (0 : Int) then h' else h) ∧ ((A = if addE c t s x A n k y c' t' s' x' S n' T y' = (0 : Int) then addR A S else A) ∧ ((n = pk (addE c t s x A n k y c' t' s' x' S n' T y') n n') ∧ ((k = pk (addE c t s x A n k y c' t' s' x' S n' T y') k (colS T (4 : Nat) T.length)) ∧ ((y = pk (addE c t s x A n k y c' t' s' x' S n' T y') y y') ∧ ((postE A S = addE c t s x A n k y c' t' s' x' S n' T y') ∧ (True)))))))))))) ∧ (((!decide (postE A S = (0 : Int))) = false) → ((bV (bB c t s c' t' s') c c' = pk (addE c t s x A n k y c' t' s' x' S n' T y') c c') ∧ ((bV (bB c t s c' t' s') t t' = pk (addE c t s x A n k y c' t' s' x' S n' T y') t t') ∧ ((bV (bB c t s c' t' s') s s' = pk (addE c t s x A n k y c' t' s' x' S n' T y') s s') ∧ ((addV x x' = pk (addE c t s x A n k y c' t' s' x' S n' T y') x x') ∧ ((h' = if addE c t s x A n k y c' t' s' x' S n' T y' = (0 : Int) then h' else h) ∧ ((addR A S = if addE c t s x A n k y c' t' s' x' S n' T y' = (0 : Int) then addR A S else A) ∧ ((addV n n' = pk (addE c t s x A n k y c' t' s' x' S n' T y') n n') ∧ ((addV k (takV T) = pk (addE c t s x A n k y c' t' s' x' S n' T y') k (colS T (4 : Nat) T.length)) ∧ ((addV y y' = pk (addE c t s x A n k y c' t' s' x' S n' T y') y y') ∧ (((0 : Int) = addE c t s x A n k y c' t' s' x' S n' T y') ∧ (True)))))))))))))))))))))))))))))))) := by kernel_rfl
theorem mkR_len (n : Nat) (f g : Nat → Int) : (mkR n f g).length = n := by simp [mkR]
theorem mkR_get {n i : Nat} (h : i < n) (f g : Nat → Int) : (mkR n f g).getD i .any = el2 (f i) (g i) := by
  simp [mkR, List.getD_eq_getElem?_getD, h]
theorem mkR_cl {n i : Nat} (h : i < n) (f g : Nat → Int) : cl (mkR n f g) i 0 = f i ∧ cl (mkR n f g) i 1 = g i := by
  unfold cl elCell; rw [mkR_get h]; exact ⟨rfl, rfl⟩
theorem mkR_congr {n : Nat} {f g f' g' : Nat → Int} (h : ∀ i, i < n → f i = f' i ∧ g i = g' i) : mkR n f g = mkR n f' g' := by
  unfold mkR
  refine List.map_congr_left fun i hi => ?_
  obtain ⟨h1, h2⟩ := h i (List.mem_range.1 hi)
  rw [h1, h2]
theorem mkR_set {n j : Nat} (h : j < n) (f g : Nat → Int) (a b : Int) : (mkR n f g).set j (.agg (setL ((mkR n f g).getD j .any).cells 0 [.int .i64 a, .int .i64 b])) = mkR n (fun i => if i = j then a else f i) (fun i => if i = j then b else g i) := by
  rw [mkR_get h]
  apply List.ext_getElem?
  intro i
  rw [List.getElem?_set]
  by_cases hij : j = i
  · subst hij
    rw [if_pos rfl, if_pos (by rw [mkR_len]; exact h)]
    simp [mkR, h, el2, SV.cells, setL]
  · rw [if_neg hij]
    have hji : ¬ i = j := fun e => hij e.symm
    by_cases hi : i < n
    · simp [mkR, hi, hji]
    · rw [List.getElem?_eq_none (by rw [mkR_len]; omega), List.getElem?_eq_none (by rw [mkR_len]; omega)]
theorem mkR_zero (n : Nat) : List.replicate n (SV.agg [.int .i64 0, .int .i64 0]) = mkR n (fun _ => 0) (fun _ => 0) := by
  apply List.ext_getElem?
  intro i
  by_cases hi : i < n
  · simp [mkR, hi, el2]
  · rw [List.getElem?_eq_none (by simp; omega), List.getElem?_eq_none (by rw [mkR_len]; omega)]
theorem feN_stay {f : Nat → Int} {i : Nat} (h : feN f i ≠ 0) : ∀ j, i ≤ j → feN f j = feN f i
  | 0, hj => by rw [Nat.le_zero.1 hj]
  | j + 1, hj => by
    rcases Nat.lt_or_ge i (j + 1) with h1 | h1
    · have := feN_stay h j (by omega)
      simp only [feN]
      rw [if_neg (by rw [this]; exact h), this]
    · rw [show i = j + 1 by omega]
theorem feN_next {f : Nat → Int} {i : Nat} (h : feN f i = 0) : feN f (i + 1) = f i := by simp only [feN]; rw [if_pos h]
theorem feN_err {f : Nat → Int} {i n : Nat} (h : feN f i = 0) (hn : i < n) (he : f i ≠ 0) : feN f n = f i := by
  rw [← feN_next h]; exact feN_stay (by rw [feN_next h]; exact he) n hn
theorem rowB_no {R : List SV} {k i : Nat} (h : rowB R k i = false) : ∀ n, i ≤ n → rowB R k n = false
  | 0, hn => by rw [Nat.le_zero.1 hn] at h; exact h
  | n + 1, hn => by
    rcases Nat.lt_or_ge i (n + 1) with h1 | h1
    · simp only [rowB]; rw [rowB_no h n (by omega)]; rfl
    · rw [show n + 1 = i by omega]; exact h
theorem rwA_eq (R : List SV) (k : Nat) : (elCell R k 0).toSl = rwA R k := rfl
theorem sum_err {n : Int} {R : List SV} {k : Nat} (h0 : 0 ≤ n) (h64 : n ≤ 64) (hk : k < R.length) (hf : feN (stE R n) k = 0) (he : stE R n k ≠ 0) : sumE n R = stE R n k ∧ sumR n R = [] := by
  have e : sumE n R = stE R n k := by unfold sumE; rw [if_neg (by omega)]; exact feN_err hf hk he
  exact ⟨e, by unfold sumR; rw [e, if_neg he]⟩
theorem rowC_ok {R : List SV} {k i : Nat} (h : rowC R k i = true) : totV [el2 (sc R 0 k i) (sc R 1 k i), el2 (cl (rwA R k) i 0) (cl (rwA R k) i 1)] 0 = sc R 0 (k + 1) i ∧ totV [el2 (sc R 0 k i) (sc R 1 k i), el2 (cl (rwA R k) i 0) (cl (rwA R k) i 1)] 1 = sc R 1 (k + 1) i := by
  have h' : totB [el2 (sc R 0 k i) (sc R 1 k i), el2 (cl (rwA R k) i 0) (cl (rwA R k) i 1)] [el2 (sc R 0 k i) (sc R 1 k i), el2 (cl (rwA R k) i 0) (cl (rwA R k) i 1)].length = true := h
  rw [totV_ok h', totV_ok h']
  refine ⟨?_, ?_⟩
  · show (0 + sc R 0 k i) + cl (rwA R k) i 0 = _
    rw [Int.zero_add]; rfl
  · show (0 + sc R 1 k i) + cl (rwA R k) i 1 = _
    rw [Int.zero_add]; rfl
theorem ssum_known : Known Try.prog 31 ssumC := by
  refine known1 (nt := 58) (An := fun (n, R) => (ssum_an n R)) (labs := []) (lit := false) (em := em_ssum) sh_ssum_le (by kernel_rfl) mixedT tyT_ok (.cons total_known .nil) Try.func31 (by kernel_rfl) (fun a => by obtain ⟨n, R⟩ := a; kernel_rfl) (fun a => by obtain ⟨n, R⟩ := a; rfl) (fun a ha => ?_)
  obtain ⟨n, R⟩ := a
  replace ha : in64 n ∧ R.length ≤ 1000000000 := ha.out
  refine ⟨_, vc_ssum n R, ?_⟩
  simp only [Int.reduceLE, Int.reduceLT, Int.reduceEq, Int.reduceNe, Nat.reduceLeDiff, Nat.reduceEqDiff, beq_eq_false_iff_ne, beq_iff_eq, decide_eq_decide, ne_eq, eq_self, true_and, and_true, and_self, and_false, false_and, Bool.not_true, Bool.not_false, Bool.false_eq_true, Bool.true_eq_false, false_implies, true_implies, implies_true, imp_false, not_true, not_false_eq_true, decide_eq_true_eq, decide_eq_false_iff_not, Bool.not_eq_true', Bool.not_eq_false', Bool.and_eq_true, Classical.not_not, decide_true, decide_false, Bool.and_true, Bool.true_and, if_true, if_false, Ob_iff]
  simp only [rwA_eq, cl_eq, mkR_len, chkE_z, not_t, true_and]
  refine ⟨fun g => ?_, fun g0 => ⟨fun g => ?_, fun g64 => ⟨by omega, ⟨0, rfl, ?_, by omega, by omega, by omega, rfl⟩, fun k hk => ⟨fun hlt => ⟨by omega, fun g => ?_, fun g => ⟨⟨0, rfl, ?_, by omega, g, rfl⟩, fun j hj => ⟨fun hjl => ?_, fun hjl => ?_⟩⟩⟩, fun hge => ?_⟩⟩⟩⟩
  · have e : sumE n R = 1 := by unfold sumE; rw [if_pos (.inl g)]
    exact ⟨by unfold sumR; rw [e]; rfl, e.symm⟩
  · have e : sumE n R = 1 := by unfold sumE; rw [if_pos (.inr g)]
    exact ⟨by unfold sumR; rw [e]; rfl, e.symm⟩
  · rw [mkR_zero]; rfl
  · have e3 : stE R n k = 3 := by unfold stE; rw [if_pos g]
    obtain ⟨e1, e2⟩ := sum_err (by omega) (by omega) (by omega) hk.2.2.2 (by rw [e3]; decide)
    rw [e1, e2, e3]; exact ⟨rfl, rfl⟩
  · exact mkR_congr fun i _ => ⟨by simp, by simp⟩
  · have hjn : j < n.toNat := by omega
    have c0 := (mkR_cl hjn (fun i => if i < j then sc R 0 (k + 1) i else sc R 0 k i) (fun i => if i < j then sc R 1 (k + 1) i else sc R 1 k i)).1
    have c1 := (mkR_cl hjn (fun i => if i < j then sc R 0 (k + 1) i else sc R 0 k i) (fun i => if i < j then sc R 1 (k + 1) i else sc R 1 k i)).2
    simp only [Nat.lt_irrefl, if_false] at c0 c1
    rw [c0, c1]
    refine ⟨by omega, by omega, by omega, fun he => ?_, fun he => ⟨by omega, by omega, j + 1, by rw [wrapI (by omega)]; omega, ?_, ⟨by omega, g, ?_⟩, by omega⟩⟩
    · have he' : rowC R k j = false := he
      have hb : rowB R k (rwA R k).length = false := rowB_no (i := j + 1) (by simp only [rowB, he']; simp) _ (by omega)
      have e10 : stE R n k = 10 := by unfold stE; rw [if_neg (by omega), if_neg (by rw [hb]; decide)]
      obtain ⟨e1, e2⟩ := sum_err (by omega) (by omega) (by omega) hk.2.2.2 (by rw [e10]; decide)
      rw [e1, e2, e10, he]; exact ⟨rfl, rfl⟩
    · have he' : rowC R k j = true := he
      obtain ⟨t0, t1⟩ := rowC_ok he'
      unfold el2 at t0 t1
      rw [t0, t1, mkR_set hjn]
      refine mkR_congr fun i _ => ?_
      by_cases hij : i = j
      · subst hij
        rw [if_pos rfl, if_pos rfl, if_pos (by omega), if_pos (by omega)]; exact ⟨rfl, rfl⟩
      · rw [if_neg hij, if_neg hij]
        by_cases h2 : i < j
        · rw [if_pos h2, if_pos h2, if_pos (by omega), if_pos (by omega)]; exact ⟨rfl, rfl⟩
        · rw [if_neg h2, if_neg h2, if_neg (by omega), if_neg (by omega)]; exact ⟨rfl, rfl⟩
    · have he' : rowC R k j = true := he
      simp only [rowB, hj.2.2, he']; rfl
  · have ej : j = (rwA R k).length := by omega
    have e0 : stE R n k = 0 := by unfold stE; rw [if_neg (by omega), if_pos (by rw [← ej]; exact hj.2.2)]
    refine ⟨k + 1, by rw [wrapI (by omega)]; omega, mkR_congr fun i hi => ?_, ⟨by omega, by omega, by omega, by rw [feN_next hk.2.2.2]; exact e0⟩, by omega⟩
    rw [if_pos (by omega), if_pos (by omega)]; exact ⟨rfl, rfl⟩
  · have ek : k = R.length := by omega
    subst ek
    have e : sumE n R = 0 := by unfold sumE; rw [if_neg (by omega)]; exact hk.2.2.2
    exact ⟨by unfold sumR; rw [if_pos e], e.symm⟩

theorem spost_known : Known Try.prog 42 spostC := by
  refine known1 (nt := 19) (An := fun (A, B) => noAnn) (labs := []) (lit := false) (em := em_spost) sh_spost_le (by kernel_rfl) mixedT tyT_ok (.cons ssum_known .nil) Try.func42 (by kernel_rfl) (fun a => by obtain ⟨A, B⟩ := a; kernel_rfl) (fun a => by obtain ⟨A, B⟩ := a; rfl) (fun a ha => ?_)
  obtain ⟨A, B⟩ := a
  replace ha : A.length ≤ 1000000000 ∧ B.length ≤ 1000000000 := ha.out
  refine ⟨_, vc_spost A B, ?_⟩
  simp only [Int.reduceLE, Int.reduceLT, Int.reduceEq, Int.reduceNe, Nat.reduceLeDiff, Nat.reduceEqDiff, beq_eq_false_iff_ne, beq_iff_eq, decide_eq_decide, ne_eq, eq_self, true_and, and_true, and_self, and_false, false_and, Bool.not_true, Bool.not_false, Bool.false_eq_true, Bool.true_eq_false, false_implies, true_implies, implies_true, imp_false, not_true, not_false_eq_true, decide_eq_true_eq, decide_eq_false_iff_not, Bool.not_eq_true', Bool.not_eq_false', Bool.and_eq_true, Classical.not_not, decide_true, decide_false, Bool.and_true, Bool.true_and, if_true, if_false, Ob_iff]
  refine ⟨fun g => ?_, fun g => ⟨by unfold in64; omega, ?_⟩⟩
  · have e : postE A B = 3 := by unfold postE; rw [if_pos (by omega)]
    exact ⟨by unfold addR; rw [e]; rfl, e.symm⟩
  · have e : postE A B = sumE A.length (two A B) := by unfold postE; rw [if_neg (by omega)]
    refine ⟨?_, e.symm⟩
    unfold addR sumR
    rw [e]; rfl

theorem clS_known : Known Try.prog 22 clSC := by
  refine known1 (nt := 8) (An := fun l => noAnn) (labs := []) (lit := false) (em := em_clS) sh_clS_le (by kernel_rfl) mixedT tyT_ok .nil Try.func22 (by kernel_rfl) (fun a => by kernel_rfl) (fun a => by rfl) (fun l ha => ?_)
  replace ha : l.length ≤ 1000000000 := ha.out
  refine ⟨_, vc_clS l, ?_⟩
  simp only [Int.reduceLE, Int.reduceLT, Int.reduceEq, Int.reduceNe, Nat.reduceLeDiff, Nat.reduceEqDiff, beq_eq_false_iff_ne, beq_iff_eq, decide_eq_decide, ne_eq, eq_self, true_and, and_true, and_self, and_false, false_and, Bool.not_true, Bool.not_false, Bool.false_eq_true, Bool.true_eq_false, false_implies, true_implies, implies_true, imp_false, not_true, not_false_eq_true, decide_eq_true_eq, decide_eq_false_iff_not, Bool.not_eq_true', Bool.not_eq_false', Bool.and_eq_true, Classical.not_not, decide_true, decide_false, Bool.and_true, Bool.true_and, if_true, if_false, Ob_iff]
  exact ⟨fun h => h, by omega, rfl⟩

theorem clT_known : Known Try.prog 23 clTC := by
  refine known1 (nt := 8) (An := fun l => noAnn) (labs := []) (lit := false) (em := em_clT) sh_clT_le (by kernel_rfl) mixedT tyT_ok .nil Try.func23 (by kernel_rfl) (fun a => by kernel_rfl) (fun a => by rfl) (fun l ha => ?_)
  replace ha : l.length ≤ 1000000000 := ha.out
  refine ⟨_, vc_clT l, ?_⟩
  simp only [Int.reduceLE, Int.reduceLT, Int.reduceEq, Int.reduceNe, Nat.reduceLeDiff, Nat.reduceEqDiff, beq_eq_false_iff_ne, beq_iff_eq, decide_eq_decide, ne_eq, eq_self, true_and, and_true, and_self, and_false, false_and, Bool.not_true, Bool.not_false, Bool.false_eq_true, Bool.true_eq_false, false_implies, true_implies, implies_true, imp_false, not_true, not_false_eq_true, decide_eq_true_eq, decide_eq_false_iff_not, Bool.not_eq_true', Bool.not_eq_false', Bool.and_eq_true, Classical.not_not, decide_true, decide_false, Bool.and_true, Bool.true_and, if_true, if_false, Ob_iff]
  exact ⟨fun h => h, by omega, rfl⟩

theorem clR_known : Known Try.prog 37 clRC := by
  refine known1 (nt := 8) (An := fun l => noAnn) (labs := []) (lit := false) (em := em_clR) sh_clR_le (by kernel_rfl) mixedT tyT_ok .nil Try.func37 (by kernel_rfl) (fun a => by kernel_rfl) (fun a => by rfl) (fun l ha => ?_)
  replace ha : l.length ≤ 1000000000 := ha.out
  refine ⟨_, vc_clR l, ?_⟩
  simp only [Int.reduceLE, Int.reduceLT, Int.reduceEq, Int.reduceNe, Nat.reduceLeDiff, Nat.reduceEqDiff, beq_eq_false_iff_ne, beq_iff_eq, decide_eq_decide, ne_eq, eq_self, true_and, and_true, and_self, and_false, false_and, Bool.not_true, Bool.not_false, Bool.false_eq_true, Bool.true_eq_false, false_implies, true_implies, implies_true, imp_false, not_true, not_false_eq_true, decide_eq_true_eq, decide_eq_false_iff_not, Bool.not_eq_true', Bool.not_eq_false', Bool.and_eq_true, Classical.not_not, decide_true, decide_false, Bool.and_true, Bool.true_and, if_true, if_false, Ob_iff]
  exact ⟨fun h => h, by omega, rfl⟩

theorem copied_known : Known Try.prog 34 copiedC := by
  refine known1 (nt := 12) (An := fun (p, c, t, s, x, h, S, n, T, y) => noAnn) (labs := []) (lit := false) (em := em_copied) sh_copied_le (by kernel_rfl) mixedT tyT_ok (.cons clS_known (.cons clT_known .nil)) Try.func34 (by kernel_rfl) (fun a => by obtain ⟨p, c, t, s, x, h, S, n, T, y⟩ := a; kernel_rfl) (fun a => by obtain ⟨p, c, t, s, x, h, S, n, T, y⟩ := a; rfl) (fun a ha => ?_)
  obtain ⟨p, c, t, s, x, h, S, n, T, y⟩ := a
  replace ha : S.length ≤ 1000000000 ∧ T.length ≤ 1000000000 := ha.out
  refine ⟨_, vc_copied p c t s x h S n T y, ?_⟩
  simp only [Int.reduceLE, Int.reduceLT, Int.reduceEq, Int.reduceNe, Nat.reduceLeDiff, Nat.reduceEqDiff, beq_eq_false_iff_ne, beq_iff_eq, decide_eq_decide, ne_eq, eq_self, true_and, and_true, and_self, and_false, false_and, Bool.not_true, Bool.not_false, Bool.false_eq_true, Bool.true_eq_false, false_implies, true_implies, implies_true, imp_false, not_true, not_false_eq_true, decide_eq_true_eq, decide_eq_false_iff_not, Bool.not_eq_true', Bool.not_eq_false', Bool.and_eq_true, Classical.not_not, decide_true, decide_false, Bool.and_true, Bool.true_and, if_true, if_false, Ob_iff]
  exact ha

theorem eqRw_no {w : Nat} {a b : List SV} {i : Nat} (h : eqRw w a b i = false) : ∀ n, i ≤ n → eqRw w a b n = false
  | 0, hn => by rw [Nat.le_zero.1 hn] at h; exact h
  | n + 1, hn => by
    rcases Nat.lt_or_ge i (n + 1) with h1 | h1
    · simp only [eqRw]; rw [eqRw_no h n (by omega)]; rfl
    · rw [show n + 1 = i by omega]; exact h
theorem eqS_no {w : Nat} {a b : List SV} {i : Nat} (hi : i < a.length) (h : eqE w a b i = false) : eqS_ w a b = false := by
  unfold eqS_; rw [eqRw_no (i := i + 1) (by simp only [eqRw, h]; simp) _ (by omega)]; simp
theorem eqE2 (a b : List SV) (i : Nat) : (decide (cl a i 0 = cl b i 0) && decide (cl a i 1 = cl b i 1)) = eqE 2 a b i := by simp [eqE, List.range, List.range.loop]
theorem eqE6 (a b : List SV) (i : Nat) : (decide (cl a i 0 = cl b i 0) && (decide (cl a i 1 = cl b i 1) && (decide (cl a i 2 = cl b i 2) && (decide (cl a i 3 = cl b i 3) && (decide (cl a i 4 = cl b i 4) && decide (cl a i 5 = cl b i 5)))))) = eqE 6 a b i := by simp [eqE, List.range, List.range.loop]
theorem eqE2' (a b : List SV) (i : Nat) : (cl a i 0 = cl b i 0 ∧ cl a i 1 = cl b i 1) ↔ eqE 2 a b i = true := by rw [← eqE2]; simp
theorem eqE6' (a b : List SV) (i : Nat) : (cl a i 0 = cl b i 0 ∧ cl a i 1 = cl b i 1 ∧ cl a i 2 = cl b i 2 ∧ cl a i 3 = cl b i 3 ∧ cl a i 4 = cl b i 4 ∧ cl a i 5 = cl b i 5) ↔ eqE 6 a b i = true := by rw [← eqE6]; simp
theorem eq_vc {w : Nat} {a b : List SV} (ha : a.length ≤ 1000000000 ∧ b.length ≤ 1000000000) : (¬(a.length : Int) = b.length → eqS_ w a b = false) ∧
    ((a.length : Int) = b.length → (∃ x1 : Nat, (0 : Int) = x1 ∧ x1 ≤ a.length ∧ a.length = b.length ∧ a.length ≤ 1000000000 ∧ eqRw w a b x1 = true) ∧
        ∀ (x2 : Nat), x2 ≤ a.length ∧ a.length = b.length ∧ a.length ≤ 1000000000 ∧ eqRw w a b x2 = true →
            ((x2 : Int) < a.length → (0 ≤ (x2 : Int) ∧ (x2 : Int) < a.length) ∧ (0 ≤ (x2 : Int) ∧ (x2 : Int) < b.length) ∧ (eqE w a b x2 = false → eqS_ w a b = false) ∧
                      (eqE w a b x2 = true → ∃ x3 : Nat, IntKind.i64.wrap ((x2 : Int) + 1) = x3 ∧ (x3 ≤ a.length ∧ a.length = b.length ∧ a.length ≤ 1000000000 ∧ eqRw w a b x3 = true) ∧ a.length - x3 < a.length - x2)) ∧
              (¬(x2 : Int) < a.length → eqS_ w a b = true)) := by
  refine ⟨fun g => ?_, fun g => ⟨⟨0, rfl, by omega, by omega, by omega, rfl⟩, fun i hi => ⟨fun hlt => ⟨by omega, by omega, fun he => eqS_no (by omega) he, fun he => ⟨i + 1, by rw [wrapI (by omega)]; omega, ⟨by omega, by omega, by omega, by simp only [eqRw, hi.2.2.2, he]; rfl⟩, by omega⟩⟩, fun hge => ?_⟩⟩⟩
  · unfold eqS_; rw [decide_eq_false (by omega)]; rfl
  · have e : i = a.length := by omega
    subst e
    unfold eqS_; rw [hi.2.2.2, decide_eq_true hi.2.1]; rfl
theorem eqR__known : Known Try.prog 33 eqR_C := by
  refine known1 (nt := 26) (An := fun (a, b) => (eq_an shK 2 a b)) (labs := []) (lit := false) (em := em_eqR_) sh_eqR__le (by kernel_rfl) mixedT tyT_ok .nil Try.func33 (by kernel_rfl) (fun a => by obtain ⟨a, b⟩ := a; kernel_rfl) (fun a => by obtain ⟨a, b⟩ := a; rfl) (fun a ha => ?_)
  obtain ⟨a, b⟩ := a
  replace ha : a.length ≤ 1000000000 ∧ b.length ≤ 1000000000 := ha.out
  refine ⟨_, vc_eqR_ a b, ?_⟩
  simp only [Int.reduceLE, Int.reduceLT, Int.reduceEq, Int.reduceNe, Nat.reduceLeDiff, Nat.reduceEqDiff, beq_eq_false_iff_ne, beq_iff_eq, decide_eq_decide, ne_eq, eq_self, true_and, and_true, and_self, and_false, false_and, Bool.not_true, Bool.not_false, Bool.false_eq_true, Bool.true_eq_false, false_implies, true_implies, implies_true, imp_false, not_true, not_false_eq_true, decide_eq_true_eq, decide_eq_false_iff_not, Bool.not_eq_true', Bool.not_eq_false', Bool.and_eq_true, Classical.not_not, decide_true, decide_false, Bool.and_true, Bool.true_and, if_true, if_false, Ob_iff]
  simp only [cl_eq, eqE2']
  have key := eq_vc (w := 2) ha
  refine ⟨key.1, fun g => ⟨(key.2 g).1, fun i hi => ⟨fun hlt => ⟨(((key.2 g).2 i hi).1 hlt).1, (((key.2 g).2 i hi).1 hlt).2.1, fun hh => (((key.2 g).2 i hi).1 hlt).2.2.1 ?_, (((key.2 g).2 i hi).1 hlt).2.2.2⟩, ((key.2 g).2 i hi).2⟩⟩⟩
  cases hq : eqE 2 a b i with
  | false => rfl
  | true =>
    have hp := (eqE2' a b i).2 hq
    simp [hp] at hh

theorem eqSh_known : Known Try.prog 35 eqShC := by
  refine known1 (nt := 26) (An := fun (a, b) => (eq_an shK 2 a b)) (labs := []) (lit := false) (em := em_eqSh) sh_eqSh_le (by kernel_rfl) mixedT tyT_ok .nil Try.func35 (by kernel_rfl) (fun a => by obtain ⟨a, b⟩ := a; kernel_rfl) (fun a => by obtain ⟨a, b⟩ := a; rfl) (fun a ha => ?_)
  obtain ⟨a, b⟩ := a
  replace ha : a.length ≤ 1000000000 ∧ b.length ≤ 1000000000 := ha.out
  refine ⟨_, vc_eqSh a b, ?_⟩
  simp only [Int.reduceLE, Int.reduceLT, Int.reduceEq, Int.reduceNe, Nat.reduceLeDiff, Nat.reduceEqDiff, beq_eq_false_iff_ne, beq_iff_eq, decide_eq_decide, ne_eq, eq_self, true_and, and_true, and_self, and_false, false_and, Bool.not_true, Bool.not_false, Bool.false_eq_true, Bool.true_eq_false, false_implies, true_implies, implies_true, imp_false, not_true, not_false_eq_true, decide_eq_true_eq, decide_eq_false_iff_not, Bool.not_eq_true', Bool.not_eq_false', Bool.and_eq_true, Classical.not_not, decide_true, decide_false, Bool.and_true, Bool.true_and, if_true, if_false, Ob_iff]
  simp only [cl_eq, eqE2']
  have key := eq_vc (w := 2) ha
  refine ⟨key.1, fun g => ⟨(key.2 g).1, fun i hi => ⟨fun hlt => ⟨(((key.2 g).2 i hi).1 hlt).1, (((key.2 g).2 i hi).1 hlt).2.1, fun hh => (((key.2 g).2 i hi).1 hlt).2.2.1 ?_, (((key.2 g).2 i hi).1 hlt).2.2.2⟩, ((key.2 g).2 i hi).2⟩⟩⟩
  cases hq : eqE 2 a b i with
  | false => rfl
  | true =>
    have hp := (eqE2' a b i).2 hq
    simp [hp] at hh

theorem eqTk_known : Known Try.prog 36 eqTkC := by
  refine known1 (nt := 26) (An := fun (a, b) => (eq_an tkK 6 a b)) (labs := []) (lit := false) (em := em_eqTk) sh_eqTk_le (by kernel_rfl) mixedT tyT_ok .nil Try.func36 (by kernel_rfl) (fun a => by obtain ⟨a, b⟩ := a; kernel_rfl) (fun a => by obtain ⟨a, b⟩ := a; rfl) (fun a ha => ?_)
  obtain ⟨a, b⟩ := a
  replace ha : a.length ≤ 1000000000 ∧ b.length ≤ 1000000000 := ha.out
  refine ⟨_, vc_eqTk a b, ?_⟩
  simp only [Int.reduceLE, Int.reduceLT, Int.reduceEq, Int.reduceNe, Nat.reduceLeDiff, Nat.reduceEqDiff, beq_eq_false_iff_ne, beq_iff_eq, decide_eq_decide, ne_eq, eq_self, true_and, and_true, and_self, and_false, false_and, Bool.not_true, Bool.not_false, Bool.false_eq_true, Bool.true_eq_false, false_implies, true_implies, implies_true, imp_false, not_true, not_false_eq_true, decide_eq_true_eq, decide_eq_false_iff_not, Bool.not_eq_true', Bool.not_eq_false', Bool.and_eq_true, Classical.not_not, decide_true, decide_false, Bool.and_true, Bool.true_and, if_true, if_false, Ob_iff]
  simp only [cl_eq, eqE6']
  have key := eq_vc (w := 6) ha
  refine ⟨key.1, fun g => ⟨(key.2 g).1, fun i hi => ⟨fun hlt => ⟨(((key.2 g).2 i hi).1 hlt).1, (((key.2 g).2 i hi).1 hlt).2.1, fun hh => (((key.2 g).2 i hi).1 hlt).2.2.1 ?_, (((key.2 g).2 i hi).1 hlt).2.2.2⟩, ((key.2 g).2 i hi).2⟩⟩⟩
  cases hq : eqE 6 a b i with
  | false => rfl
  | true =>
    have hp := (eqE6' a b i).2 hq
    simp [hp] at hh

theorem ysame_known : Known Try.prog 14 ysameC := by
  refine known1 (nt := 52) (An := fun (c, t, s, x, h, S, n, k, y, c', t', s', x', h', S', n', k', y') => noAnn) (labs := []) (lit := false) (em := em_ysame) sh_ysame_le (by kernel_rfl) mixedT tyT_ok (.cons eqR__known .nil) Try.func14 (by kernel_rfl) (fun a => by obtain ⟨c, t, s, x, h, S, n, k, y, c', t', s', x', h', S', n', k', y'⟩ := a; kernel_rfl) (fun a => by obtain ⟨c, t, s, x, h, S, n, k, y, c', t', s', x', h', S', n', k', y'⟩ := a; rfl) (fun a ha => ?_)
  obtain ⟨c, t, s, x, h, S, n, k, y, c', t', s', x', h', S', n', k', y'⟩ := a
  replace ha : S.length ≤ 1000000000 ∧ S'.length ≤ 1000000000 := ha.out
  refine ⟨_, vc_ysame c t s x h S n k y c' t' s' x' h' S' n' k' y', ?_⟩
  simp only [Int.reduceLE, Int.reduceLT, Int.reduceEq, Int.reduceNe, Nat.reduceLeDiff, Nat.reduceEqDiff, beq_eq_false_iff_ne, beq_iff_eq, decide_eq_decide, ne_eq, eq_self, true_and, and_true, and_self, and_false, false_and, Bool.not_true, Bool.not_false, Bool.false_eq_true, Bool.true_eq_false, false_implies, true_implies, implies_true, imp_false, not_true, not_false_eq_true, decide_eq_true_eq, decide_eq_false_iff_not, Bool.not_eq_true', Bool.not_eq_false', Bool.and_eq_true, Classical.not_not, decide_true, decide_false, Bool.and_true, Bool.true_and, if_true, if_false, Ob_iff]
  refine ⟨fun g => ⟨fun gx => ⟨fun gh => ⟨ha, fun gS => ⟨fun gn => ⟨fun gk => ?_, fun gk => ?_⟩, fun gn => ?_⟩, fun gS => ?_⟩, fun gh => ?_⟩, fun gx => ?_⟩, fun g => ?_⟩
  · simp [eqT, g.1, g.2.1, g.2.2, gx, gh, gS, gn, gk]
  · simp [eqT, gk]
  · simp [eqT, gn]
  · simp [eqT, gS]
  · simp [eqT, gh]
  · simp [eqT, gx]
  · unfold eqT; rw [g]; rfl

theorem yadd_known : Known Try.prog 32 yaddC := by
  refine known1 (nt := 89) (An := fun (c, t, s, x, h, A, n, k, y, p', c', t', s', x', h', S, n', T, y') => (add_an)) (labs := []) (lit := true) (em := em_yadd) sh_yadd_le (by kernel_rfl) mixedT tyT_ok (.cons badd_known (.cons asum_known (.cons madd_known (.cons spost_known .nil)))) Try.func32 (by kernel_rfl) (fun a => by obtain ⟨c, t, s, x, h, A, n, k, y, p', c', t', s', x', h', S, n', T, y'⟩ := a; kernel_rfl) (fun a => by obtain ⟨c, t, s, x, h, A, n, k, y, p', c', t', s', x', h', S, n', T, y'⟩ := a; rfl) (fun a ha => ?_)
  obtain ⟨c, t, s, x, h, A, n, k, y, p', c', t', s', x', h', S, n', T, y'⟩ := a
  replace ha : A.length ≤ 1000000000 ∧ S.length ≤ 1000000000 ∧ T.length ≤ 1000000000 := ha.out
  refine ⟨_, vc_yadd c t s x h A n k y p' c' t' s' x' h' S n' T y', ?_⟩
  simp only [Int.reduceLE, Int.reduceLT, Int.reduceEq, Int.reduceNe, Nat.reduceLeDiff, Nat.reduceEqDiff, beq_eq_false_iff_ne, beq_iff_eq, decide_eq_decide, ne_eq, eq_self, true_and, and_true, and_self, and_false, false_and, Bool.not_true, Bool.not_false, Bool.false_eq_true, Bool.true_eq_false, false_implies, true_implies, implies_true, imp_false, not_true, not_false_eq_true, decide_eq_true_eq, decide_eq_false_iff_not, Bool.not_eq_true', Bool.not_eq_false', Bool.and_eq_true, Classical.not_not, decide_true, decide_false, Bool.and_true, Bool.true_and, if_true, if_false, Ob_iff]
  simp only [chkE_z, not_t]
  generalize hE : addE c t s x A n k y c' t' s' x' S n' T y' = E
  have bad : ∀ e : Int, E = e → e ≠ 0 → c = pk E c c' ∧ t = pk E t t' ∧ s = pk E s s' ∧ x = pk E x x' ∧ (h = if E = 0 then h' else h) ∧ (A = if E = 0 then addR A S else A) ∧ n = pk E n n' ∧ k = pk E k (colS T 4 T.length) ∧ y = pk E y y' ∧ e = E := by
    intro e h1 h2
    subst h1
    unfold pk
    simp only [if_neg h2]
    exact ⟨trivial, trivial, trivial, trivial, trivial, trivial, trivial, trivial, trivial, trivial⟩
  have c10 : chkE false = 10 := rfl
  refine ⟨fun g => ?_, fun g1 => ⟨by omega, fun g => ?_, fun g2 => ⟨fun g => ?_, fun g3 => ⟨fun g => ?_, fun g4 => ⟨fun g => ?_, fun g5 => ⟨fun g => ?_, fun g6 => ⟨⟨ha.1, ha.2.1⟩, fun g => ?_, fun g7 => ?_⟩⟩⟩⟩⟩⟩⟩
  · rw [g, c10]; exact bad 10 (by rw [← hE]; unfold addE; rw [if_pos g]) (by decide)
  · rw [g, c10]; exact bad 10 (by rw [← hE]; unfold addE; rw [if_neg (by rw [g1]; decide), if_pos g]) (by decide)
  · rw [g, c10]; exact bad 10 (by rw [← hE]; unfold addE; rw [if_neg (by rw [g1]; decide), if_neg (by rw [g2]; decide), if_pos (by rw [g]; rfl)]) (by decide)
  · rw [g, c10]; exact bad 10 (by rw [← hE]; unfold addE; rw [if_neg (by rw [g1]; decide), if_neg (by rw [g2]; decide), if_pos (by rw [g]; simp)]) (by decide)
  · rw [g, c10]; exact bad 10 (by rw [takV_ok g2] at g; rw [← hE]; unfold addE; rw [if_neg (by rw [g1]; decide), if_neg (by rw [g2]; decide), if_pos (by rw [g]; simp)]) (by decide)
  · rw [g, c10]; exact bad 10 (by rw [← hE]; unfold addE; rw [if_neg (by rw [g1]; decide), if_neg (by rw [g2]; decide), if_pos (by rw [g]; simp)]) (by decide)
  · rw [takV_ok g2] at g5
    exact bad _ (by rw [← hE]; unfold addE; rw [if_neg (by rw [g1]; decide), if_neg (by rw [g2]; decide), if_neg (by rw [g3, g4, g5, g6]; decide)]) g
  · rw [takV_ok g2] at g5
    have e0 : E = 0 := by rw [← hE]; unfold addE; rw [if_neg (by rw [g1]; decide), if_neg (by rw [g2]; decide), if_neg (by rw [g3, g4, g5, g6]; decide)]; exact g7
    rw [g1, addV_ok g3, addV_ok g4, takV_ok g2, addV_ok g5, addV_ok g6, e0]
    unfold pk
    simp only [if_true]
    unfold bV
    simp only [if_true]
    simp

end Go.Rx

