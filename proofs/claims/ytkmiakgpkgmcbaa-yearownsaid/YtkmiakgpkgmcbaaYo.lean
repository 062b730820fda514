/- A year: contracts whose results are anew. -/
import Derived.Test.YtkmiakgpkgmcbaaYo0
namespace Go.Rx
open Go.Proofs
set_option linter.unusedSimpArgs false
set_option linter.unusedVariables false

def zB (e : Int) : Bool := decide (e = 0)
def sh_clSO : List SV → Option (List SV)
  | [l'] => (match slOf [.int .i64, .int .i64] l' with | some l => some l | _ => none)
  | _ => none
def em_clSO : List SV → List SV := fun l => [.sl [.int .i64, .int .i64] l]
theorem sh_clSO_le : ∀ us a, sh_clSO us = some a → leL us (em_clSO a) := by
  intro us a h
  unfold sh_clSO at h
  split at h
  · split at h
    · cases h; exact (.cons (.sl (by assumption)) .nil)
    · cases h
  · cases h
def clSOC : Con := conOf sh_clSO (fun l => some (Ob (l.length ≤ 1000000000))) (fun l => .own 54 shK l)
set_option maxRecDepth 100000 in
theorem vc_clSO (l : List SV) : (wpF ⟨8, tyT, [], false, 0, [], false⟩ (noAnn) [] Try.f22 (em_clSO l) (.own 54 shK l)) = ((((l = []) → (l = [])) ∧ (Ob (((((0 : Nat) + l.length) * (16 : Nat) ≤ (1099511627776 : Nat)) ∧ ((0 : Nat) + l.length ≤ (1099511627776 : Nat)))) ∧ ((True) ∧ ([] ++ l = l))))) := by kernel_rfl
def sh_clTO : List SV → Option (List SV)
  | [l'] => (match slOf [.int .i64, .int .i64, .int .i64, .int .i64, .int .i64, .int .i64] l' with | some l => some l | _ => none)
  | _ => none
def em_clTO : List SV → List SV := fun l => [.sl [.int .i64, .int .i64, .int .i64, .int .i64, .int .i64, .int .i64] l]
theorem sh_clTO_le : ∀ us a, sh_clTO us = some a → leL us (em_clTO a) := by
  intro us a h
  unfold sh_clTO at h
  split at h
  · split at h
    · cases h; exact (.cons (.sl (by assumption)) .nil)
    · cases h
  · cases h
def clTOC : Con := conOf sh_clTO (fun l => some (Ob (l.length ≤ 1000000000))) (fun l => .own 59 tkK l)
set_option maxRecDepth 100000 in
theorem vc_clTO (l : List SV) : (wpF ⟨8, tyT, [], false, 0, [], false⟩ (noAnn) [] Try.f23 (em_clTO l) (.own 59 tkK l)) = ((((l = []) → (l = [])) ∧ (Ob (((((0 : Nat) + l.length) * (48 : Nat) ≤ (1099511627776 : Nat)) ∧ ((0 : Nat) + l.length ≤ (1099511627776 : Nat)))) ∧ ((True) ∧ ([] ++ l = l))))) := by kernel_rfl
def sh_clRO : List SV → Option (List SV)
  | [l'] => (match slOf [.int .i64, .int .i64] l' with | some l => some l | _ => none)
  | _ => none
def em_clRO : List SV → List SV := fun l => [.sl [.int .i64, .int .i64] l]
theorem sh_clRO_le : ∀ us a, sh_clRO us = some a → leL us (em_clRO a) := by
  intro us a h
  unfold sh_clRO at h
  split at h
  · split at h
    · cases h; exact (.cons (.sl (by assumption)) .nil)
    · cases h
  · cases h
def clROC : Con := conOf sh_clRO (fun l => some (Ob (l.length ≤ 1000000000))) (fun l => .own 54 shK l)
set_option maxRecDepth 100000 in
theorem vc_clRO (l : List SV) : (wpF ⟨8, tyT, [], false, 0, [], false⟩ (noAnn) [] Try.f37 (em_clRO l) (.own 54 shK l)) = ((((l = []) → (l = [])) ∧ (Ob (((((0 : Nat) + l.length) * (16 : Nat) ≤ (1099511627776 : Nat)) ∧ ((0 : Nat) + l.length ≤ (1099511627776 : Nat)))) ∧ ((True) ∧ ([] ++ l = l))))) := by kernel_rfl
def sh_ssumO : List SV → Option (Int × (List SV))
  | [.int .i64 n, R'] => (match slOf [.sl [.int .i64, .int .i64]] R' with | some R => some (n, R) | _ => none)
  | _ => none
def em_ssumO : Int × (List SV) → List SV := fun (n, R) => [.int .i64 n, .sl [.sl [.int .i64, .int .i64]] R]
theorem sh_ssumO_le : ∀ us a, sh_ssumO us = some a → leL us (em_ssumO a) := by
  intro us a h
  unfold sh_ssumO at h
  split at h
  · split at h
    · cases h; exact (.cons (.refl _) (.cons (.sl (by assumption)) .nil))
    · cases h
  · cases h
def ssumOC : Con := conOf sh_ssumO (fun (n, R) => some (Ob (in64 n ∧ R.length ≤ 1000000000))) (fun (n, R) => .tup [.own 54 shK (sumR n R), .int .i64 (sumE n R)])
set_option maxRecDepth 100000 in
theorem vc_ssumO (n : Int) (R : List SV) : (wpF ⟨58, tyT, [(40, totalC)], false, 0, [], false⟩ ((ssum_an n R)) [] Try.f31 (em_ssumO (n, R)) (.tup [.own 54 shK (sumR n R), .int .i64 (sumE n R)])) = ((((decide (n < (0 : Int)) = true) → ((((1 : Int) = sumE n R) ∧ (True)) ∧ (sumR n R = []))) ∧ ((decide (n < (0 : Int)) = false) → (((decide ((64 : Int) < n) = true) → ((((1 : Int) = sumE n R) ∧ (True)) ∧ (sumR n R = []))) ∧ ((decide ((64 : Int) < n) = false) → (Ob (((n = n) ∧ (((0 : Int) ≤ n) ∧ ((n * (16 : Int) ≤ (1099511627776 : Int)) ∧ (n ≤ (1099511627776 : Int)))))) ∧ ((∃ (x1 : Nat), ((n = n) ∧ ((R = R) ∧ (((↑R.length : Int) = (↑R.length : Int)) ∧ (((0 : Int) = (↑x1 : Int)) ∧ ((List.replicate n.toNat (SV.agg [SV.int IntKind.i64 (0 : Int), SV.int IntKind.i64 (0 : Int)]) = mkR n.toNat (sc R (0 : Nat) x1) (sc R (1 : Nat) x1)) ∧ (((x1 ≤ R.length) ∧ (((0 : Int) ≤ n) ∧ ((n ≤ (64 : Int)) ∧ (feN (stE R n) x1 = (0 : Int))))) ∧ ((True) ∧ (True))))))))) ∧ (∀ (x2 : Nat), (((x2 ≤ R.length) ∧ (((0 : Int) ≤ n) ∧ ((n ≤ (64 : Int)) ∧ (feN (stE R n) x2 = (0 : Int))))) → (((decide ((↑x2 : Int) < (↑R.length : Int)) = true) → (Ob ((((0 : Int) ≤ (↑x2 : Int)) ∧ ((↑x2 : Int) < (↑R.length : Int)))) ∧ ((((!decide ((↑(elCell R x2 (0 : Nat)).toSl.length : Int) = n)) = true) → ((((3 : Int) = sumE n R) ∧ (True)) ∧ (sumR n R = []))) ∧ (((!decide ((↑(elCell R x2 (0 : Nat)).toSl.length : Int) = n)) = false) → ((∃ (x3 : Nat), ((n = n) ∧ (((elCell R x2 (0 : Nat)).toSl = rwA R x2) ∧ ((R = R) ∧ (((↑R.length : Int) = (↑R.length : Int)) ∧ (((↑x2 : Int) = (↑x2 : Int)) ∧ (((↑(elCell R x2 (0 : Nat)).toSl.length : Int) = (↑(rwA R x2).length : Int)) ∧ (((0 : Int) = (↑x3 : Int)) ∧ ((mkR n.toNat (sc R (0 : Nat) x2) (sc R (1 : Nat) x2) = mkR n.toNat (fun i => if i < x3 then sc R (0 : Nat) (x2 + (1 : Nat)) i else sc R (0 : Nat) x2 i) fun i => if i < x3 then sc R (1 : Nat) (x2 + (1 : Nat)) i else sc R (1 : Nat) x2 i) ∧ (((x3 ≤ (rwA R x2).length) ∧ (((↑(rwA R x2).length : Int) = n) ∧ (rowB R x2 x3 = true))) ∧ ((True) ∧ (True)))))))))))) ∧ (∀ (x4 : Nat), (((x4 ≤ (rwA R x2).length) ∧ (((↑(rwA R x2).length : Int) = n) ∧ (rowB R x2 x4 = true))) → (((decide ((↑x4 : Int) < (↑(rwA R x2).length : Int)) = true) → (Ob ((((0 : Int) ≤ (↑x4 : Int)) ∧ ((↑x4 : Int) < (↑(mkR n.toNat (fun i => if i < x4 then sc R (0 : Nat) (x2 + (1 : Nat)) i else sc R (0 : Nat) x2 i) fun i => if i < x4 then sc R (1 : Nat) (x2 + (1 : Nat)) i else sc R (1 : Nat) x2 i).length : Int)))) ∧ (Ob ((x4 < (mkR n.toNat (fun i => if i < x4 then sc R (0 : Nat) (x2 + (1 : Nat)) i else sc R (0 : Nat) x2 i) fun i => if i < x4 then sc R (1 : Nat) (x2 + (1 : Nat)) i else sc R (1 : Nat) x2 i).length)) ∧ (Ob ((((0 : Int) ≤ (↑x4 : Int)) ∧ ((↑x4 : Int) < (↑(rwA R x2).length : Int)))) ∧ (Ob (((2 : Nat) ≤ (9000000000000000000 : Nat))) ∧ ((((!decide (chkE (totB [SV.agg [SV.int IntKind.i64 (elCell (mkR n.toNat (fun i => if i < x4 then sc R (0 : Nat) (x2 + (1 : Nat)) i else sc R (0 : Nat) x2 i) fun i => if i < x4 then sc R (1 : Nat) (x2 + (1 : Nat)) i else sc R (1 : Nat) x2 i) x4 (0 : Nat)).toInt, SV.int IntKind.i64 (elCell (mkR n.toNat (fun i => if i < x4 then sc R (0 : Nat) (x2 + (1 : Nat)) i else sc R (0 : Nat) x2 i) fun i => if i < x4 then sc R (1 : Nat) (x2 + (1 : Nat)) i else sc R (1 : Nat) x2 i) x4 (1 : Nat)).toInt], SV.agg [SV.int IntKind.i64 (elCell (rwA R x2) x4 (0 : Nat)).toInt, SV.int IntKind.i64 (elCell (rwA R x2) x4 (1 : Nat)).toInt]] (2 : Nat)) = (0 : Int))) = true) → (((chkE (totB [SV.agg [SV.int IntKind.i64 (elCell (mkR n.toNat (fun i => if i < x4 then sc R (0 : Nat) (x2 + (1 : Nat)) i else sc R (0 : Nat) x2 i) fun i => if i < x4 then sc R (1 : Nat) (x2 + (1 : Nat)) i else sc R (1 : Nat) x2 i) x4 (0 : Nat)).toInt, SV.int IntKind.i64 (elCell (mkR n.toNat (fun i => if i < x4 then sc R (0 : Nat) (x2 + (1 : Nat)) i else sc R (0 : Nat) x2 i) fun i => if i < x4 then sc R (1 : Nat) (x2 + (1 : Nat)) i else sc R (1 : Nat) x2 i) x4 (1 : Nat)).toInt], SV.agg [SV.int IntKind.i64 (elCell (rwA R x2) x4 (0 : Nat)).toInt, SV.int IntKind.i64 (elCell (rwA R x2) x4 (1 : Nat)).toInt]] (2 : Nat)) = sumE n R) ∧ (True)) ∧ (sumR n R = []))) ∧ (((!decide (chkE (totB [SV.agg [SV.int IntKind.i64 (elCell (mkR n.toNat (fun i => if i < x4 then sc R (0 : Nat) (x2 + (1 : Nat)) i else sc R (0 : Nat) x2 i) fun i => if i < x4 then sc R (1 : Nat) (x2 + (1 : Nat)) i else sc R (1 : Nat) x2 i) x4 (0 : Nat)).toInt, SV.int IntKind.i64 (elCell (mkR n.toNat (fun i => if i < x4 then sc R (0 : Nat) (x2 + (1 : Nat)) i else sc R (0 : Nat) x2 i) fun i => if i < x4 then sc R (1 : Nat) (x2 + (1 : Nat)) i else sc R (1 : Nat) x2 i) x4 (1 : Nat)).toInt], SV.agg [SV.int IntKind.i64 (elCell (rwA R x2) x4 (0 : Nat)).toInt, SV.int IntKind.i64 (elCell (rwA R x2) x4 (1 : Nat)).toInt]] (2 : Nat)) = (0 : Int))) = false) → (Ob ((((0 : Int) ≤ (↑x4 : Int)) ∧ ((↑x4 : Int) < (↑(mkR n.toNat (fun i => if i < x4 then sc R (0 : Nat) (x2 + (1 : Nat)) i else sc R (0 : Nat) x2 i) fun i => if i < x4 then sc R (1 : Nat) (x2 + (1 : Nat)) i else sc R (1 : Nat) x2 i).length : Int)))) ∧ (Ob ((x4 < (mkR n.toNat (fun i => if i < x4 then sc R (0 : Nat) (x2 + (1 : Nat)) i else sc R (0 : Nat) x2 i) fun i => if i < x4 then sc R (1 : Nat) (x2 + (1 : Nat)) i else sc R (1 : Nat) x2 i).length)) ∧ (∃ (x5 : Nat), ((n = n) ∧ ((rwA R x2 = rwA R x2) ∧ ((R = R) ∧ (((↑R.length : Int) = (↑R.length : Int)) ∧ (((↑x2 : Int) = (↑x2 : Int)) ∧ (((↑(rwA R x2).length : Int) = (↑(rwA R x2).length : Int)) ∧ ((IntKind.i64.wrap ((↑x4 : Int) + (1 : Int)) = (↑x5 : Int)) ∧ (((mkR n.toNat (fun i => if i < x4 then sc R (0 : Nat) (x2 + (1 : Nat)) i else sc R (0 : Nat) x2 i) fun i => if i < x4 then sc R (1 : Nat) (x2 + (1 : Nat)) i else sc R (1 : Nat) x2 i).set x4 (SV.agg (setL ((mkR n.toNat (fun i => if i < x4 then sc R (0 : Nat) (x2 + (1 : Nat)) i else sc R (0 : Nat) x2 i) fun i => if i < x4 then sc R (1 : Nat) (x2 + (1 : Nat)) i else sc R (1 : Nat) x2 i).getD x4 SV.any).cells (0 : Nat) [SV.int IntKind.i64 (totV [SV.agg [SV.int IntKind.i64 (elCell (mkR n.toNat (fun i => if i < x4 then sc R (0 : Nat) (x2 + (1 : Nat)) i else sc R (0 : Nat) x2 i) fun i => if i < x4 then sc R (1 : Nat) (x2 + (1 : Nat)) i else sc R (1 : Nat) x2 i) x4 (0 : Nat)).toInt, SV.int IntKind.i64 (elCell (mkR n.toNat (fun i => if i < x4 then sc R (0 : Nat) (x2 + (1 : Nat)) i else sc R (0 : Nat) x2 i) fun i => if i < x4 then sc R (1 : Nat) (x2 + (1 : Nat)) i else sc R (1 : Nat) x2 i) x4 (1 : Nat)).toInt], SV.agg [SV.int IntKind.i64 (elCell (rwA R x2) x4 (0 : Nat)).toInt, SV.int IntKind.i64 (elCell (rwA R x2) x4 (1 : Nat)).toInt]] (0 : Nat)), SV.int IntKind.i64 (totV [SV.agg [SV.int IntKind.i64 (elCell (mkR n.toNat (fun i => if i < x4 then sc R (0 : Nat) (x2 + (1 : Nat)) i else sc R (0 : Nat) x2 i) fun i => if i < x4 then sc R (1 : Nat) (x2 + (1 : Nat)) i else sc R (1 : Nat) x2 i) x4 (0 : Nat)).toInt, SV.int IntKind.i64 (elCell (mkR n.toNat (fun i => if i < x4 then sc R (0 : Nat) (x2 + (1 : Nat)) i else sc R (0 : Nat) x2 i) fun i => if i < x4 then sc R (1 : Nat) (x2 + (1 : Nat)) i else sc R (1 : Nat) x2 i) x4 (1 : Nat)).toInt], SV.agg [SV.int IntKind.i64 (elCell (rwA R x2) x4 (0 : Nat)).toInt, SV.int IntKind.i64 (elCell (rwA R x2) x4 (1 : Nat)).toInt]] (1 : Nat))])) = mkR n.toNat (fun i => if i < x5 then sc R (0 : Nat) (x2 + (1 : Nat)) i else sc R (0 : Nat) x2 i) fun i => if i < x5 then sc R (1 : Nat) (x2 + (1 : Nat)) i else sc R (1 : Nat) x2 i) ∧ (((x5 ≤ (rwA R x2).length) ∧ (((↑(rwA R x2).length : Int) = n) ∧ (rowB R x2 x5 = true))) ∧ (((rwA R x2).length - x5 < (rwA R x2).length - x4) ∧ (True))))))))))))))))))))) ∧ ((decide ((↑x4 : Int) < (↑(rwA R x2).length : Int)) = false) → (∃ (x6 : Nat), ((n = n) ∧ ((R = R) ∧ (((↑R.length : Int) = (↑R.length : Int)) ∧ ((IntKind.i64.wrap ((↑x2 : Int) + (1 : Int)) = (↑x6 : Int)) ∧ (((mkR n.toNat (fun i => if i < x4 then sc R (0 : Nat) (x2 + (1 : Nat)) i else sc R (0 : Nat) x2 i) fun i => if i < x4 then sc R (1 : Nat) (x2 + (1 : Nat)) i else sc R (1 : Nat) x2 i) = mkR n.toNat (sc R (0 : Nat) x6) (sc R (1 : Nat) x6)) ∧ (((x6 ≤ R.length) ∧ (((0 : Int) ≤ n) ∧ ((n ≤ (64 : Int)) ∧ (feN (stE R n) x6 = (0 : Int))))) ∧ ((R.length - x6 < R.length - x2) ∧ (True)))))))))))))))))) ∧ ((decide ((↑x2 : Int) < (↑R.length : Int)) = false) → ((((0 : Int) = sumE n R) ∧ (True)) ∧ (mkR n.toNat (sc R (0 : Nat) x2) (sc R (1 : Nat) x2) = sumR n R))))))))))))) := by kernel_rfl
def sh_spostO : List SV → Option ((List SV) × (List SV))
  | [A', B'] => (match slOf [.int .i64, .int .i64] A' with | some A => (match slOf [.int .i64, .int .i64] B' with | some B => some (A, B) | _ => none) | _ => none)
  | _ => none
def em_spostO : (List SV) × (List SV) → List SV := fun (A, B) => [.sl [.int .i64, .int .i64] A, .sl [.int .i64, .int .i64] B]
theorem sh_spostO_le : ∀ us a, sh_spostO us = some a → leL us (em_spostO a) := by
  intro us a h
  unfold sh_spostO at h
  split at h
  · split at h
    · split at h
      · cases h; exact (.cons (.sl (by assumption)) (.cons (.sl (by assumption)) .nil))
      · cases h
    · cases h
  · cases h
def spostOC : Con := conOf sh_spostO (fun (A, B) => some (Ob (A.length ≤ 1000000000 ∧ B.length ≤ 1000000000))) (fun (A, B) => .tup [.own 54 shK (addR A B), .int .i64 (postE A B)])
set_option maxRecDepth 100000 in
theorem vc_spostO (A : List SV) (B : List SV) : (wpF ⟨19, tyT, [(31, ssumOC)], false, 0, [], false⟩ (noAnn) [] Try.f42 (em_spostO (A, B)) (.tup [.own 54 shK (addR A B), .int .i64 (postE A B)])) = (((((!decide ((↑A.length : Int) = (↑B.length : Int))) = true) → ((((3 : Int) = postE A B) ∧ (True)) ∧ (addR A B = []))) ∧ (((!decide ((↑A.length : Int) = (↑B.length : Int))) = false) → (Ob (((in64 (↑A.length : Int)) ∧ ((2 : Nat) ≤ (1000000000 : Nat)))) ∧ (((sumE (↑A.length : Int) [SV.sl [CK.int IntKind.i64, CK.int IntKind.i64] A, SV.sl [CK.int IntKind.i64, CK.int IntKind.i64] B] = postE A B) ∧ (True)) ∧ (sumR (↑A.length : Int) [SV.sl [CK.int IntKind.i64, CK.int IntKind.i64] A, SV.sl [CK.int IntKind.i64, CK.int IntKind.i64] B] = addR A B)))))) := by kernel_rfl
def sh_addF : List SV → Option (Int × Int × Int × Int × Int × (List SV) × Int × Int × Int × Int × Int × Int × Int × Int × Int × (List SV) × Int × (List SV) × Int)
  | [.agg [.int .i64 c, .int .i64 t, .int .i64 s, .int .i64 x, .int .i64 h, A', .int .i64 n, .int .i64 k, .int .i64 y], .agg [.int .i64 p', .int .i64 c', .int .i64 t', .int .i64 s', .int .i64 x', .int .i64 h', S', .int .i64 n', T', .int .i64 y']] => (match slOf [.int .i64, .int .i64] A' with | some A => (match slOf [.int .i64, .int .i64] S' with | some S => (match slOf [.int .i64, .int .i64, .int .i64, .int .i64, .int .i64, .int .i64] T' with | some T => some (c, t, s, x, h, A, n, k, y, p', c', t', s', x', h', S, n', T, y') | _ => none) | _ => none) | _ => none)
  | _ => none
def em_addF : Int × Int × Int × Int × Int × (List SV) × Int × Int × Int × Int × Int × Int × Int × Int × Int × (List SV) × Int × (List SV) × Int → List SV := fun (c, t, s, x, h, A, n, k, y, p', c', t', s', x', h', S, n', T, y') => [.agg [.int .i64 c, .int .i64 t, .int .i64 s, .int .i64 x, .int .i64 h, .sl [.int .i64, .int .i64] A, .int .i64 n, .int .i64 k, .int .i64 y], .agg [.int .i64 p', .int .i64 c', .int .i64 t', .int .i64 s', .int .i64 x', .int .i64 h', .sl [.int .i64, .int .i64] S, .int .i64 n', .sl [.int .i64, .int .i64, .int .i64, .int .i64, .int .i64, .int .i64] T, .int .i64 y']]
theorem sh_addF_le : ∀ us a, sh_addF us = some a → leL us (em_addF a) := by
  intro us a h
  unfold sh_addF at h
  split at h
  · split at h
    · split at h
      · split at h
        · cases h; exact (.cons (.agg (.cons (.refl _) (.cons (.refl _) (.cons (.refl _) (.cons (.refl _) (.cons (.refl _) (.cons (.sl (by assumption)) (.cons (.refl _) (.cons (.refl _) (.cons (.refl _) .nil)))))))))) (.cons (.agg (.cons (.refl _) (.cons (.refl _) (.cons (.refl _) (.cons (.refl _) (.cons (.refl _) (.cons (.refl _) (.cons (.sl (by assumption)) (.cons (.refl _) (.cons (.sl (by assumption)) (.cons (.refl _) .nil))))))))))) .nil))
        · cases h
      · cases h
    · cases h
  · cases h
def addFC : Con := conOf sh_addF (fun (c, t, s, x, h, A, n, k, y, p', c', t', s', x', h', S, n', T, y') => some (Ob (A.length ≤ 1000000000 ∧ S.length ≤ 1000000000 ∧ T.length ≤ 1000000000))) (fun (c, t, s, x, h, A, n, k, y, p', c', t', s', x', h', S, n', T, y') => .own 999999999 [] [.tup [.agg [.int .i64 (pk (addE c t s x A n k y c' t' s' x' S n' T y') c c'), .int .i64 (pk (addE c t s x A n k y c' t' s' x' S n' T y') t t'), .int .i64 (pk (addE c t s x A n k y c' t' s' x' S n' T y') s s'), .int .i64 (pk (addE c t s x A n k y c' t' s' x' S n' T y') x x'), .int .i64 (if addE c t s x A n k y c' t' s' x' S n' T y' = 0 then h' else h), .csl (zB (addE c t s x A n k y c' t' s' x' S n' T y')) shK (addR A S), .int .i64 (pk (addE c t s x A n k y c' t' s' x' S n' T y') n n'), .int .i64 (pk (addE c t s x A n k y c' t' s' x' S n' T y') k (colS T 4 T.length)), .int .i64 (pk (addE c t s x A n k y c' t' s' x' S n' T y') y y')], .int .i64 (addE c t s x A n k y c' t' s' x' S n' T y')]])
set_option maxRecDepth 100000 in
theorem vc_addF (c : Int) (t : Int) (s : Int) (x : Int) (h : Int) (A : List SV) (n : Int) (k : Int) (y : Int) (p' : Int) (c' : Int) (t' : Int) (s' : Int) (x' : Int) (h' : Int) (S : List SV) (n' : Int) (T : List SV) (y' : Int) : (wpF ⟨89, tyT, [(41, baddC), (29, asumC), (39, maddC), (42, spostOC)], true, 0, [], false⟩ ((add_an)) [] Try.f32 (em_addF (c, t, s, x, h, A, n, k, y, p', c', t', s', x', h', S, n', T, y')) (.own 999999999 [] [.tup [.agg [.int .i64 (pk (addE c t s x A n k y c' t' s' x' S n' T y') c c'), .int .i64 (pk (addE c t s x A n k y c' t' s' x' S n' T y') t t'), .int .i64 (pk (addE c t s x A n k y c' t' s' x' S n' T y') s s'), .int .i64 (pk (addE c t s x A n k y c' t' s' x' S n' T y') x x'), .int .i64 (if addE c t s x A n k y c' t' s' x' S n' T y' = 0 then h' else h), .csl (zB (addE c t s x A n k y c' t' s' x' S n' T y')) shK (addR A S), .int .i64 (pk (addE c t s x A n k y c' t' s' x' S n' T y') n n'), .int .i64 (pk (addE c t s x A n k y c' t' s' x' S n' T y') k (colS T 4 T.length)), .int .i64 (pk (addE c t s x A n k y c' t' s' x' S n' T y') y y')], .int .i64 (addE c t s x A n k y c' t' s' x' S n' T y')]])) = (((((!decide (chkE (bB c t s c' t' s') = (0 : Int))) = true) → ((c = pk (addE c t s x A n k y c' t' s' x' S n' T y') c c') ∧ ((t = pk (addE c t s x A n k y c' t' s' x' S n' T y') t t') ∧ ((s = pk (addE c t s x A n k y c' t' s' x' S n' T y') s s') ∧ ((x = pk (addE c t s x A n k y c' t' s' x' S n' T y') x x') ∧ ((h = if addE c t s x A n k y c' t' s' x' S n' T y' = (0 : Int) then h' else h) ∧ ((zB (addE c t s x A n k y c' t' s' x' S n' T y') = false) ∧ ((n = pk (addE c t s x A n k y c' t' s' x' S n' T y') n n') ∧ ((k = pk (addE c t s x A n k y c' t' s' x' S n' T y') k (colS T (4 : Nat) T.length)) ∧ ((y = pk (addE c t s x A n k y c' t' s' x' S n' T y') y y') ∧ ((chkE (bB c t s c' t' s') = addE c t s x A n k y c' t' s' x' S n' T y') ∧ (True)))))))))))) ∧ (((!decide (chkE (bB c t s c' t' s') = (0 : Int))) = false) → (Ob ((T.length ≤ (9000000000000000000 : Nat))) ∧ ((((!decide (chkE (takB T T.length) = (0 : Int))) = true) → ((c = pk (addE c t s x A n k y c' t' s' x' S n' T y') c c') ∧ ((t = pk (addE c t s x A n k y c' t' s' x' S n' T y') t t') ∧ ((s = pk (addE c t s x A n k y c' t' s' x' S n' T y') s s') ∧ ((x = pk (addE c t s x A n k y c' t' s' x' S n' T y') x x') ∧ ((h = if addE c t s x A n k y c' t' s' x' S n' T y' = (0 : Int) then h' else h) ∧ ((zB (addE c t s x A n k y c' t' s' x' S n' T y') = false) ∧ ((n = pk (addE c t s x A n k y c' t' s' x' S n' T y') n n') ∧ ((k = pk (addE c t s x A n k y c' t' s' x' S n' T y') k (colS T (4 : Nat) T.length)) ∧ ((y = pk (addE c t s x A n k y c' t' s' x' S n' T y') y y') ∧ ((chkE (takB T T.length) = addE c t s x A n k y c' t' s' x' S n' T y') ∧ (True)))))))))))) ∧ (((!decide (chkE (takB T T.length) = (0 : Int))) = false) → (Ob ((((0 : Int) ≤ (0 : Int)) ∧ ((0 : Int) < (4 : Int)))) ∧ ((((!decide (chkE (addB x x') = (0 : Int))) = true) → ((c = pk (addE c t s x A n k y c' t' s' x' S n' T y') c c') ∧ ((t = pk (addE c t s x A n k y c' t' s' x' S n' T y') t t') ∧ ((s = pk (addE c t s x A n k y c' t' s' x' S n' T y') s s') ∧ ((x = pk (addE c t s x A n k y c' t' s' x' S n' T y') x x') ∧ ((h = if addE c t s x A n k y c' t' s' x' S n' T y' = (0 : Int) then h' else h) ∧ ((zB (addE c t s x A n k y c' t' s' x' S n' T y') = false) ∧ ((n = pk (addE c t s x A n k y c' t' s' x' S n' T y') n n') ∧ ((k = pk (addE c t s x A n k y c' t' s' x' S n' T y') k (colS T (4 : Nat) T.length)) ∧ ((y = pk (addE c t s x A n k y c' t' s' x' S n' T y') y y') ∧ ((chkE (addB x x') = addE c t s x A n k y c' t' s' x' S n' T y') ∧ (True)))))))))))) ∧ (((!decide (chkE (addB x x') = (0 : Int))) = false) → (Ob ((((0 : Int) ≤ (1 : Int)) ∧ ((1 : Int) < (4 : Int)))) ∧ ((((!decide (chkE (addB n n') = (0 : Int))) = true) → ((c = pk (addE c t s x A n k y c' t' s' x' S n' T y') c c') ∧ ((t = pk (addE c t s x A n k y c' t' s' x' S n' T y') t t') ∧ ((s = pk (addE c t s x A n k y c' t' s' x' S n' T y') s s') ∧ ((x = pk (addE c t s x A n k y c' t' s' x' S n' T y') x x') ∧ ((h = if addE c t s x A n k y c' t' s' x' S n' T y' = (0 : Int) then h' else h) ∧ ((zB (addE c t s x A n k y c' t' s' x' S n' T y') = false) ∧ ((n = pk (addE c t s x A n k y c' t' s' x' S n' T y') n n') ∧ ((k = pk (addE c t s x A n k y c' t' s' x' S n' T y') k (colS T (4 : Nat) T.length)) ∧ ((y = pk (addE c t s x A n k y c' t' s' x' S n' T y') y y') ∧ ((chkE (addB n n') = addE c t s x A n k y c' t' s' x' S n' T y') ∧ (True)))))))))))) ∧ (((!decide (chkE (addB n n') = (0 : Int))) = false) → (Ob ((((0 : Int) ≤ (2 : Int)) ∧ ((2 : Int) < (4 : Int)))) ∧ ((((!decide (chkE (addB k (takV T)) = (0 : Int))) = true) → ((c = pk (addE c t s x A n k y c' t' s' x' S n' T y') c c') ∧ ((t = pk (addE c t s x A n k y c' t' s' x' S n' T y') t t') ∧ ((s = pk (addE c t s x A n k y c' t' s' x' S n' T y') s s') ∧ ((x = pk (addE c t s x A n k y c' t' s' x' S n' T y') x x') ∧ ((h = if addE c t s x A n k y c' t' s' x' S n' T y' = (0 : Int) then h' else h) ∧ ((zB (addE c t s x A n k y c' t' s' x' S n' T y') = false) ∧ ((n = pk (addE c t s x A n k y c' t' s' x' S n' T y') n n') ∧ ((k = pk (addE c t s x A n k y c' t' s' x' S n' T y') k (colS T (4 : Nat) T.length)) ∧ ((y = pk (addE c t s x A n k y c' t' s' x' S n' T y') y y') ∧ ((chkE (addB k (takV T)) = addE c t s x A n k y c' t' s' x' S n' T y') ∧ (True)))))))))))) ∧ (((!decide (chkE (addB k (takV T)) = (0 : Int))) = false) → (Ob ((((0 : Int) ≤ (3 : Int)) ∧ ((3 : Int) < (4 : Int)))) ∧ ((((!decide (chkE (addB y y') = (0 : Int))) = true) → ((c = pk (addE c t s x A n k y c' t' s' x' S n' T y') c c') ∧ ((t = pk (addE c t s x A n k y c' t' s' x' S n' T y') t t') ∧ ((s = pk (addE c t s x A n k y c' t' s' x' S n' T y') s s') ∧ ((x = pk (addE c t s x A n k y c' t' s' x' S n' T y') x x') ∧ ((h = if addE c t s x A n k y c' t' s' x' S n' T y' = (0 : Int) then h' else h) ∧ ((zB (addE c t s x A n k y c' t' s' x' S n' T y') = false) ∧ ((n = pk (addE c t s x A n k y c' t' s' x' S n' T y') n n') ∧ ((k = pk (addE c t s x A n k y c' t' s' x' S n' T y') k (colS T (4 : Nat) T.length)) ∧ ((y = pk (addE c t s x A n k y c' t' s' x' S n' T y') y y') ∧ ((chkE (addB y y') = addE c t s x A n k y c' t' s' x' S n' T y') ∧ (True)))))))))))) ∧ (((!decide (chkE (addB y y') = (0 : Int))) = false) → (Ob (((A.length ≤ (1000000000 : Nat)) ∧ (S.length ≤ (1000000000 : Nat)))) ∧ ((((!decide (postE A S = (0 : Int))) = true) → ((c = pk (addE c t s x A n k y c' t' s' x' S n' T y') c c') ∧ ((t = pk (addE c t s x A n k y c' t' s' x' S n' T y') t t') ∧ ((s = pk (addE c t s x A n k y c' t' s' x' S n' T y') s s') ∧ ((x = pk (addE c t s x A n k y c' t' s' x' S n' T y') x x') ∧ ((h = if addE c t s x A n k y c' t' s' x' S n' T y' = (0 : Int) then h' else h) ∧ ((zB (addE c t s x A n k y c' t' s' x' S n' T y') = false) ∧ ((n = pk (addE c t s x A n k y c' t' s' x' S n' T y') n n') ∧ ((k = pk (addE c t s x A n k y c' t' s' x' S n' T y') k (colS T (4 : Nat) T.length)) ∧ ((y = pk (addE c t s x A n k y c' t' s' x' S n' T y') y y') ∧ ((postE A S = addE c t s x A n k y c' t' s' x' S n' T y') ∧ (True)))))))))))) ∧ (((!decide (postE A S = (0 : Int))) = false) → ((bV (bB c t s c' t' s') c c' = pk (addE c t s x A n k y c' t' s' x' S n' T y') c c') ∧ ((bV (bB c t s c' t' s') t t' = pk (addE c t s x A n k y c' t' s' x' S n' T y') t t') ∧ ((bV (bB c t s c' t' s') s s' = pk (addE c t s x A n k y c' t' s' x' S n' T y') s s') ∧ ((addV x x' = pk (addE c t s x A n k y c' t' s' x' S n' T y') x x') ∧ ((h' = if addE c t s x A n k y c' t' s' x' S n' T y' = (0 : Int) then h' else h) ∧ (((zB (addE c t s x A n k y c' t' s' x' S n' T y') = true) → (addR A S = addR A S)) ∧ ((addV n n' = pk (addE c t s x A n k y c' t' s' x' S n' T y') n n') ∧ ((addV k (takV T) = pk (addE c t s x A n k y c' t' s' x' S n' T y') k (colS T (4 : Nat) T.length)) ∧ ((addV y y' = pk (addE c t s x A n k y c' t' s' x' S n' T y') y y') ∧ (((0 : Int) = addE c t s x A n k y c' t' s' x' S n' T y') ∧ (True)))))))))))))))))))))))))))))))) := by kernel_rfl
def sh_copiedF : List SV → Option (Int × Int × Int × Int × Int × Int × (List SV) × Int × (List SV) × Int)
  | [.agg [.int .i64 p, .int .i64 c, .int .i64 t, .int .i64 s, .int .i64 x, .int .i64 h, S', .int .i64 n, T', .int .i64 y]] => (match slOf [.int .i64, .int .i64] S' with | some S => (match slOf [.int .i64, .int .i64, .int .i64, .int .i64, .int .i64, .int .i64] T' with | some T => some (p, c, t, s, x, h, S, n, T, y) | _ => none) | _ => none)
  | _ => none
def em_copiedF : Int × Int × Int × Int × Int × Int × (List SV) × Int × (List SV) × Int → List SV := fun (p, c, t, s, x, h, S, n, T, y) => [.agg [.int .i64 p, .int .i64 c, .int .i64 t, .int .i64 s, .int .i64 x, .int .i64 h, .sl [.int .i64, .int .i64] S, .int .i64 n, .sl [.int .i64, .int .i64, .int .i64, .int .i64, .int .i64, .int .i64] T, .int .i64 y]]
theorem sh_copiedF_le : ∀ us a, sh_copiedF us = some a → leL us (em_copiedF a) := by
  intro us a h
  unfold sh_copiedF at h
  split at h
  · split at h
    · split at h
      · cases h; exact (.cons (.agg (.cons (.refl _) (.cons (.refl _) (.cons (.refl _) (.cons (.refl _) (.cons (.refl _) (.cons (.refl _) (.cons (.sl (by assumption)) (.cons (.refl _) (.cons (.sl (by assumption)) (.cons (.refl _) .nil))))))))))) .nil)
      · cases h
    · cases h
  · cases h
def copiedFC : Con := conOf sh_copiedF (fun (p, c, t, s, x, h, S, n, T, y) => some (Ob (S.length ≤ 1000000000 ∧ T.length ≤ 1000000000))) (fun (p, c, t, s, x, h, S, n, T, y) => .own 999999999 [] [.agg [.int .i64 p, .int .i64 c, .int .i64 t, .int .i64 s, .int .i64 x, .int .i64 h, .sl shK S, .int .i64 n, .sl tkK T, .int .i64 y]])
set_option maxRecDepth 100000 in
theorem vc_copiedF (p : Int) (c : Int) (t : Int) (s : Int) (x : Int) (h : Int) (S : List SV) (n : Int) (T : List SV) (y : Int) : (wpF ⟨12, tyT, [(22, clSOC), (23, clTOC)], false, 0, [], false⟩ (noAnn) [] Try.f34 (em_copiedF (p, c, t, s, x, h, S, n, T, y)) (.own 999999999 [] [.agg [.int .i64 p, .int .i64 c, .int .i64 t, .int .i64 s, .int .i64 x, .int .i64 h, .sl shK S, .int .i64 n, .sl tkK T, .int .i64 y]])) = ((Ob ((S.length ≤ (1000000000 : Nat))) ∧ (Ob ((T.length ≤ (1000000000 : Nat))) ∧ ((p = p) ∧ ((c = c) ∧ ((t = t) ∧ ((s = s) ∧ ((x = x) ∧ ((h = h) ∧ ((S = S) ∧ ((n = n) ∧ ((T = T) ∧ ((y = y) ∧ (True)))))))))))))) := by kernel_rfl
theorem clSO_known : Known Try.prog 22 clSOC := by
  refine known1 (nt := 8) (An := fun l => noAnn) (labs := []) (lit := false) (em := em_clSO) sh_clSO_le (by kernel_rfl) mixedT tyT_ok .nil Try.func22 (by kernel_rfl) (fun a => by kernel_rfl) (fun a => by rfl) (fun l ha => ?_)
  replace ha : l.length ≤ 1000000000 := ha.out
  refine ⟨_, vc_clSO l, ?_⟩
  simp only [Int.reduceLE, Int.reduceLT, Int.reduceEq, Int.reduceNe, Nat.reduceLeDiff, Nat.reduceEqDiff, beq_eq_false_iff_ne, beq_iff_eq, decide_eq_decide, ne_eq, eq_self, true_and, and_true, and_self, and_false, false_and, Bool.not_true, Bool.not_false, Bool.false_eq_true, Bool.true_eq_false, false_implies, true_implies, implies_true, imp_false, not_true, not_false_eq_true, decide_eq_true_eq, decide_eq_false_iff_not, Bool.not_eq_true', Bool.not_eq_false', Bool.and_eq_true, Classical.not_not, decide_true, decide_false, Bool.and_true, Bool.true_and, if_true, if_false, Ob_iff]
  repeat' first | exact trivial | with_reducible rfl | apply And.intro | apply Ob.mk | intro _
  all_goals first
    | omega
    | exact List.nil_append _

theorem clTO_known : Known Try.prog 23 clTOC := by
  refine known1 (nt := 8) (An := fun l => noAnn) (labs := []) (lit := false) (em := em_clTO) sh_clTO_le (by kernel_rfl) mixedT tyT_ok .nil Try.func23 (by kernel_rfl) (fun a => by kernel_rfl) (fun a => by rfl) (fun l ha => ?_)
  replace ha : l.length ≤ 1000000000 := ha.out
  refine ⟨_, vc_clTO l, ?_⟩
  simp only [Int.reduceLE, Int.reduceLT, Int.reduceEq, Int.reduceNe, Nat.reduceLeDiff, Nat.reduceEqDiff, beq_eq_false_iff_ne, beq_iff_eq, decide_eq_decide, ne_eq, eq_self, true_and, and_true, and_self, and_false, false_and, Bool.not_true, Bool.not_false, Bool.false_eq_true, Bool.true_eq_false, false_implies, true_implies, implies_true, imp_false, not_true, not_false_eq_true, decide_eq_true_eq, decide_eq_false_iff_not, Bool.not_eq_true', Bool.not_eq_false', Bool.and_eq_true, Classical.not_not, decide_true, decide_false, Bool.and_true, Bool.true_and, if_true, if_false, Ob_iff]
  repeat' first | exact trivial | with_reducible rfl | apply And.intro | apply Ob.mk | intro _
  all_goals first
    | omega
    | exact List.nil_append _

theorem clRO_known : Known Try.prog 37 clROC := by
  refine known1 (nt := 8) (An := fun l => noAnn) (labs := []) (lit := false) (em := em_clRO) sh_clRO_le (by kernel_rfl) mixedT tyT_ok .nil Try.func37 (by kernel_rfl) (fun a => by kernel_rfl) (fun a => by rfl) (fun l ha => ?_)
  replace ha : l.length ≤ 1000000000 := ha.out
  refine ⟨_, vc_clRO l, ?_⟩
  simp only [Int.reduceLE, Int.reduceLT, Int.reduceEq, Int.reduceNe, Nat.reduceLeDiff, Nat.reduceEqDiff, beq_eq_false_iff_ne, beq_iff_eq, decide_eq_decide, ne_eq, eq_self, true_and, and_true, and_self, and_false, false_and, Bool.not_true, Bool.not_false, Bool.false_eq_true, Bool.true_eq_false, false_implies, true_implies, implies_true, imp_false, not_true, not_false_eq_true, decide_eq_true_eq, decide_eq_false_iff_not, Bool.not_eq_true', Bool.not_eq_false', Bool.and_eq_true, Classical.not_not, decide_true, decide_false, Bool.and_true, Bool.true_and, if_true, if_false, Ob_iff]
  repeat' first | exact trivial | with_reducible rfl | apply And.intro | apply Ob.mk | intro _
  all_goals first
    | omega
    | exact List.nil_append _

theorem ssumO_known : Known Try.prog 31 ssumOC := by
  refine known1 (nt := 58) (An := fun (n, R) => (ssum_an n R)) (labs := []) (lit := false) (em := em_ssumO) sh_ssumO_le (by kernel_rfl) mixedT tyT_ok (.cons total_known .nil) Try.func31 (by kernel_rfl) (fun a => by obtain ⟨n, R⟩ := a; kernel_rfl) (fun a => by obtain ⟨n, R⟩ := a; rfl) (fun a ha => ?_)
  obtain ⟨n, R⟩ := a
  replace ha : in64 n ∧ R.length ≤ 1000000000 := ha.out
  refine ⟨_, vc_ssumO n R, ?_⟩
  simp only [Int.reduceLE, Int.reduceLT, Int.reduceEq, Int.reduceNe, Nat.reduceLeDiff, Nat.reduceEqDiff, beq_eq_false_iff_ne, beq_iff_eq, decide_eq_decide, ne_eq, eq_self, true_and, and_true, and_self, and_false, false_and, Bool.not_true, Bool.not_false, Bool.false_eq_true, Bool.true_eq_false, false_implies, true_implies, implies_true, imp_false, not_true, not_false_eq_true, decide_eq_true_eq, decide_eq_false_iff_not, Bool.not_eq_true', Bool.not_eq_false', Bool.and_eq_true, Classical.not_not, decide_true, decide_false, Bool.and_true, Bool.true_and, if_true, if_false, Ob_iff]
  simp only [rwA_eq, cl_eq, mkR_len, chkE_z, not_t, true_and]
  refine ⟨fun g => ?_, fun g0 => ⟨fun g => ?_, fun g64 => ⟨by omega, ⟨0, rfl, ?_, by omega, by omega, by omega, rfl⟩, fun k hk => ⟨fun hlt => ⟨by omega, fun g => ?_, fun g => ⟨⟨0, rfl, ?_, by omega, g, rfl⟩, fun j hj => ⟨fun hjl => ?_, fun hjl => ?_⟩⟩⟩, fun hge => ?_⟩⟩⟩⟩
  · have e : sumE n R = 1 := by unfold sumE; rw [if_pos (.inl g)]
    exact ⟨e.symm, by unfold sumR; rw [e]; rfl⟩
  · have e : sumE n R = 1 := by unfold sumE; rw [if_pos (.inr g)]
    exact ⟨e.symm, by unfold sumR; rw [e]; rfl⟩
  · rw [mkR_zero]; rfl
  · have e3 : stE R n k = 3 := by unfold stE; rw [if_pos g]
    obtain ⟨e1, e2⟩ := sum_err (by omega) (by omega) (by omega) hk.2.2.2 (by rw [e3]; decide)
    rw [e1, e2, e3]; exact ⟨rfl, rfl⟩
  · exact mkR_congr fun i _ => ⟨by simp, by simp⟩
  · have hjn : j < n.toNat := by omega
    have c0 := (mkR_cl hjn (fun i => if i < j then sc R 0 (k + 1) i else sc R 0 k i) (fun i => if i < j then sc R 1 (k + 1) i else sc R 1 k i)).1
    have c1 := (mkR_cl hjn (fun i => if i < j then sc R 0 (k + 1) i else sc R 0 k i) (fun i => if i < j then sc R 1 (k + 1) i else sc R 1 k i)).2
    simp only [Nat.lt_irrefl, if_false] at c0 c1
    rw [c0, c1]
    refine ⟨by omega, by omega, by omega, fun he => ?_, fun he => ⟨by omega, by omega, j + 1, by rw [wrapI (by omega)]; omega, ?_, ⟨by omega, g, ?_⟩, by omega⟩⟩
    · have he' : rowC R k j = false := he
      have hb : rowB R k (rwA R k).length = false := rowB_no (i := j + 1) (by simp only [rowB, he']; simp) _ (by omega)
      have e10 : stE R n k = 10 := by unfold stE; rw [if_neg (by omega), if_neg (by rw [hb]; decide)]
      obtain ⟨e1, e2⟩ := sum_err (by omega) (by omega) (by omega) hk.2.2.2 (by rw [e10]; decide)
      rw [e1, e2, e10, he]; exact ⟨rfl, rfl⟩
    · have he' : rowC R k j = true := he
      obtain ⟨t0, t1⟩ := rowC_ok he'
      unfold el2 at t0 t1
      rw [t0, t1, mkR_set hjn]
      refine mkR_congr fun i _ => ?_
      by_cases hij : i = j
      · subst hij
        rw [if_pos rfl, if_pos rfl, if_pos (by omega), if_pos (by omega)]; exact ⟨rfl, rfl⟩
      · rw [if_neg hij, if_neg hij]
        by_cases h2 : i < j
        · rw [if_pos h2, if_pos h2, if_pos (by omega), if_pos (by omega)]; exact ⟨rfl, rfl⟩
        · rw [if_neg h2, if_neg h2, if_neg (by omega), if_neg (by omega)]; exact ⟨rfl, rfl⟩
    · have he' : rowC R k j = true := he
      simp only [rowB, hj.2.2, he']; rfl
  · have ej : j = (rwA R k).length := by omega
    have e0 : stE R n k = 0 := by unfold stE; rw [if_neg (by omega), if_pos (by rw [← ej]; exact hj.2.2)]
    refine ⟨k + 1, by rw [wrapI (by omega)]; omega, mkR_congr fun i hi => ?_, ⟨by omega, by omega, by omega, by rw [feN_next hk.2.2.2]; exact e0⟩, by omega⟩
    rw [if_pos (by omega), if_pos (by omega)]; exact ⟨rfl, rfl⟩
  · have ek : k = R.length := by omega
    subst ek
    have e : sumE n R = 0 := by unfold sumE; rw [if_neg (by omega)]; exact hk.2.2.2
    exact ⟨e.symm, by unfold sumR; rw [if_pos e]⟩

theorem spostO_known : Known Try.prog 42 spostOC := by
  refine known1 (nt := 19) (An := fun (A, B) => noAnn) (labs := []) (lit := false) (em := em_spostO) sh_spostO_le (by kernel_rfl) mixedT tyT_ok (.cons ssumO_known .nil) Try.func42 (by kernel_rfl) (fun a => by obtain ⟨A, B⟩ := a; kernel_rfl) (fun a => by obtain ⟨A, B⟩ := a; rfl) (fun a ha => ?_)
  obtain ⟨A, B⟩ := a
  replace ha : A.length ≤ 1000000000 ∧ B.length ≤ 1000000000 := ha.out
  refine ⟨_, vc_spostO A B, ?_⟩
  simp only [Int.reduceLE, Int.reduceLT, Int.reduceEq, Int.reduceNe, Nat.reduceLeDiff, Nat.reduceEqDiff, beq_eq_false_iff_ne, beq_iff_eq, decide_eq_decide, ne_eq, eq_self, true_and, and_true, and_self, and_false, false_and, Bool.not_true, Bool.not_false, Bool.false_eq_true, Bool.true_eq_false, false_implies, true_implies, implies_true, imp_false, not_true, not_false_eq_true, decide_eq_true_eq, decide_eq_false_iff_not, Bool.not_eq_true', Bool.not_eq_false', Bool.and_eq_true, Classical.not_not, decide_true, decide_false, Bool.and_true, Bool.true_and, if_true, if_false, Ob_iff]
  refine ⟨fun g => ?_, fun g => ⟨by unfold in64; omega, ?_⟩⟩
  · have e : postE A B = 3 := by unfold postE; rw [if_pos (by omega)]
    exact ⟨e.symm, by unfold addR; rw [e]; rfl⟩
  · have e : postE A B = sumE A.length (two A B) := by unfold postE; rw [if_neg (by omega)]
    refine ⟨e.symm, ?_⟩
    unfold addR sumR
    rw [e]; rfl

theorem addF_known : Known Try.prog 32 addFC := by
  refine known1 (nt := 89) (An := fun (c, t, s, x, h, A, n, k, y, p', c', t', s', x', h', S, n', T, y') => (add_an)) (labs := []) (lit := true) (em := em_addF) sh_addF_le (by kernel_rfl) mixedT tyT_ok (.cons badd_known (.cons asum_known (.cons madd_known (.cons spostO_known .nil)))) Try.func32 (by kernel_rfl) (fun a => by obtain ⟨c, t, s, x, h, A, n, k, y, p', c', t', s', x', h', S, n', T, y'⟩ := a; kernel_rfl) (fun a => by obtain ⟨c, t, s, x, h, A, n, k, y, p', c', t', s', x', h', S, n', T, y'⟩ := a; rfl) (fun a ha => ?_)
  obtain ⟨c, t, s, x, h, A, n, k, y, p', c', t', s', x', h', S, n', T, y'⟩ := a
  replace ha : A.length ≤ 1000000000 ∧ S.length ≤ 1000000000 ∧ T.length ≤ 1000000000 := ha.out
  refine ⟨_, vc_addF c t s x h A n k y p' c' t' s' x' h' S n' T y', ?_⟩
  simp only [Int.reduceLE, Int.reduceLT, Int.reduceEq, Int.reduceNe, Nat.reduceLeDiff, Nat.reduceEqDiff, beq_eq_false_iff_ne, beq_iff_eq, decide_eq_decide, ne_eq, eq_self, true_and, and_true, and_self, and_false, false_and, Bool.not_true, Bool.not_false, Bool.false_eq_true, Bool.true_eq_false, false_implies, true_implies, implies_true, imp_false, not_true, not_false_eq_true, decide_eq_true_eq, decide_eq_false_iff_not, Bool.not_eq_true', Bool.not_eq_false', Bool.and_eq_true, Classical.not_not, decide_true, decide_false, Bool.and_true, Bool.true_and, if_true, if_false, Ob_iff]
  simp only [chkE_z, not_t]
  generalize hE : addE c t s x A n k y c' t' s' x' S n' T y' = E
  have bad : ∀ e : Int, E = e → e ≠ 0 → c = pk E c c' ∧ t = pk E t t' ∧ s = pk E s s' ∧ x = pk E x x' ∧ (h = if E = 0 then h' else h) ∧ zB E = false ∧ n = pk E n n' ∧ k = pk E k (colS T 4 T.length) ∧ y = pk E y y' ∧ e = E := by
    intro e h1 h2
    subst h1
    unfold pk
    simp only [if_neg h2]
    exact ⟨trivial, trivial, trivial, trivial, trivial, decide_eq_false h2, trivial, trivial, trivial, trivial⟩
  have c10 : chkE false = 10 := rfl
  refine ⟨fun g => ?_, fun g1 => ⟨by omega, fun g => ?_, fun g2 => ⟨fun g => ?_, fun g3 => ⟨fun g => ?_, fun g4 => ⟨fun g => ?_, fun g5 => ⟨fun g => ?_, fun g6 => ⟨⟨ha.1, ha.2.1⟩, fun g => ?_, fun g7 => ?_⟩⟩⟩⟩⟩⟩⟩
  · rw [g, c10]; exact bad 10 (by rw [← hE]; unfold addE; rw [if_pos g]) (by decide)
  · rw [g, c10]; exact bad 10 (by rw [← hE]; unfold addE; rw [if_neg (by rw [g1]; decide), if_pos g]) (by decide)
  · rw [g, c10]; exact bad 10 (by rw [← hE]; unfold addE; rw [if_neg (by rw [g1]; decide), if_neg (by rw [g2]; decide), if_pos (by rw [g]; rfl)]) (by decide)
  · rw [g, c10]; exact bad 10 (by rw [← hE]; unfold addE; rw [if_neg (by rw [g1]; decide), if_neg (by rw [g2]; decide), if_pos (by rw [g]; simp)]) (by decide)
  · rw [g, c10]; exact bad 10 (by rw [takV_ok g2] at g; rw [← hE]; unfold addE; rw [if_neg (by rw [g1]; decide), if_neg (by rw [g2]; decide), if_pos (by rw [g]; simp)]) (by decide)
  · rw [g, c10]; exact bad 10 (by rw [← hE]; unfold addE; rw [if_neg (by rw [g1]; decide), if_neg (by rw [g2]; decide), if_pos (by rw [g]; simp)]) (by decide)
  · rw [takV_ok g2] at g5
    exact bad _ (by rw [← hE]; unfold addE; rw [if_neg (by rw [g1]; decide), if_neg (by rw [g2]; decide), if_neg (by rw [g3, g4, g5, g6]; decide)]) g
  · rw [takV_ok g2] at g5
    have e0 : E = 0 := by rw [← hE]; unfold addE; rw [if_neg (by rw [g1]; decide), if_neg (by rw [g2]; decide), if_neg (by rw [g3, g4, g5, g6]; decide)]; exact g7
    rw [g1, addV_ok g3, addV_ok g4, takV_ok g2, addV_ok g5, addV_ok g6, e0]
    unfold pk
    simp only [if_true]
    unfold bV
    simp only [if_true]
    simp

theorem copiedF_known : Known Try.prog 34 copiedFC := by
  refine known1 (nt := 12) (An := fun (p, c, t, s, x, h, S, n, T, y) => noAnn) (labs := []) (lit := false) (em := em_copiedF) sh_copiedF_le (by kernel_rfl) mixedT tyT_ok (.cons clSO_known (.cons clTO_known .nil)) Try.func34 (by kernel_rfl) (fun a => by obtain ⟨p, c, t, s, x, h, S, n, T, y⟩ := a; kernel_rfl) (fun a => by obtain ⟨p, c, t, s, x, h, S, n, T, y⟩ := a; rfl) (fun a ha => ?_)
  obtain ⟨p, c, t, s, x, h, S, n, T, y⟩ := a
  replace ha : S.length ≤ 1000000000 ∧ T.length ≤ 1000000000 := ha.out
  refine ⟨_, vc_copiedF p c t s x h S n T y, ?_⟩
  simp only [Int.reduceLE, Int.reduceLT, Int.reduceEq, Int.reduceNe, Nat.reduceLeDiff, Nat.reduceEqDiff, beq_eq_false_iff_ne, beq_iff_eq, decide_eq_decide, ne_eq, eq_self, true_and, and_true, and_self, and_false, false_and, Bool.not_true, Bool.not_false, Bool.false_eq_true, Bool.true_eq_false, false_implies, true_implies, implies_true, imp_false, not_true, not_false_eq_true, decide_eq_true_eq, decide_eq_false_iff_not, Bool.not_eq_true', Bool.not_eq_false', Bool.and_eq_true, Classical.not_not, decide_true, decide_false, Bool.and_true, Bool.true_and, if_true, if_false, Ob_iff]
  exact ha

def tr_ytry_i : Tr := trOf 43 tyT [(9, ycheckC), (32, addFC)] false [] false (fun _ _ _ => noAnn) [] Try.f13
theorem ytry_i_in : InK Try.prog 13 tr_ytry_i := inK1 (by kernel_rfl) mixedT tyT_ok (.cons ycheck_known (.cons addF_known .nil)) .nil Try.func13 (by kernel_rfl)
def tr_ypost3 : Tr := trOf 42 tyT [(34, copiedFC)] false [(13, tr_ytry_i)] false (fun _ _ _ => noAnn) [] Try.f15
theorem ypost3_in : InK Try.prog 15 tr_ypost3 := inK1 (by kernel_rfl) mixedT tyT_ok (.cons copiedF_known .nil) (.cons ytry_i_in .nil) Try.func15 (by kernel_rfl)
def tr_ytot_i : Tr := trOf 13 tyT [(37, clROC)] false [] false (fun _ _ _ => noAnn) [] Try.f18
theorem ytot_i_in : InK Try.prog 18 tr_ytot_i := inK1 (by kernel_rfl) mixedT tyT_ok (.cons clRO_known .nil) .nil Try.func18 (by kernel_rfl)
def tr_yclone_i : Tr := trOf 13 tyT [(21, yslipsC), (18, ytotalsC)] false [] false (fun _ _ _ => noAnn) [] Try.f24
theorem yclone_i_in : InK Try.prog 24 tr_yclone_i := inK1 (by kernel_rfl) mixedT tyT_ok (.cons yslips_known (.cons ytotals_known .nil)) .nil Try.func24 (by kernel_rfl)
end Go.Rx

