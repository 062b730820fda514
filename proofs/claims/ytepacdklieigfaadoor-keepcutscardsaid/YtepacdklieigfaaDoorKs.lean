/- Tables copied, compared; cut. -/
import Derived.Test.YtepacdklieigfaaDoorIts
namespace Go.Rx
open Go.Proofs
set_option linter.unusedSimpArgs false
set_option linter.unusedVariables false

def clS (S : List SV) : Nat → List SV
  | 0 => []
  | i + 1 => clS S i ++ [.sl bandK (sch S i)]
def tabZ : List SV := [.nilsl, .nilsl, .nilsl, .int .i64 0, .int .i64 0]
def tclP (S C K : List SV) : Prop := (wfL [.sl bandK] S ∧ wfL ctK C ∧ wfL kdK K) ∧ (S.length ≤ 8 ∧ C.length ≤ 6 ∧ K.length ≤ 12) ∧ (∀ i, i < S.length → (sch S i).length ≤ 100) ∧ ∀ i, i < C.length → (ctB C i).length ≤ 100
def tcF_an (S C K : List SV) (m r : Int) : Nat → Option Ann
  | 0 => some ⟨Nat, fun i => ⟨[(2, .ptr 2 0), (3, .ptr 3 0), (18, .sl [.sl bandK] S), (19, .int .i64 S.length), (20, .int .i64 i)], [(2, .box 26 tabZ), (3, .box 26 [.osl 29 0, .osl 10 0, .osl 13 0, .int .i64 m, .int .i64 r]), (29, .row 0 47 [.sl bandK] (clS S i)), (10, .row 0 49 ctK C), (13, .row 0 61 kdK K)]⟩, fun i => i ≤ S.length ∧ tclP S C K, fun i => S.length - i, [2, 3, 18, 19, 20], [2, 3, 29, 10, 13], [(100300, 29, 47, [.sl bandK])], fun _ _ => none⟩
  | 2 => some ⟨Nat, fun i => ⟨[(2, .ptr 2 0), (3, .ptr 3 0), (34, .int .i64 C.length), (35, .int .i64 i)], [(2, .box 26 tabZ), (3, .box 26 [.osl 29 0, .osl 10 0, .osl 13 0, .int .i64 m, .int .i64 r]), (29, .row 0 47 [.sl bandK] S), (10, .row 0 49 ctK C), (13, .row 0 61 kdK K)]⟩, fun i => i ≤ C.length ∧ tclP S C K, fun i => C.length - i, [2, 3, 34, 35], [2, 3, 29, 10, 13], [], fun _ _ => none⟩
  | _ => none
def eqx_an (k : List CK) (a b : List SV) : Nat → Option Ann
  | 0 => some ⟨Nat, fun i => ⟨[(0, .sl k a), (1, .sl k b), (12, .int .i64 a.length), (13, .int .i64 i)], []⟩, fun i => i ≤ a.length ∧ a = b ∧ a.length ≤ 1000, fun i => a.length - i, [0, 1, 12, 13], [], [], fun _ _ => none⟩
  | _ => none
def eqf_an (k : List CK) (a b : List SV) (n : Nat) (P : Prop) : Nat → Option Ann
  | 0 => some ⟨Nat, fun i => ⟨[(1, .sl k b), (2, .fn n []), (15, .sl k a), (16, .int .i64 a.length), (17, .int .i64 i)], []⟩, fun i => i ≤ a.length ∧ a = b ∧ a.length ≤ 1000 ∧ P, fun i => a.length - i, [1, 2, 15, 16, 17], [], [], fun _ _ => none⟩
  | _ => none
def sel (b : Bool) (l : List SV) : List SV := if b = true then l else []
def selI (b : Bool) (n : Int) : Int := if b = true then n else 0
def cutM (S C : List SV) (m : Int) : Int := if wK S C m - 500 < 0 then maxV 0 (m + (wK S C m - 500)) else m
def cutB (S C K : List SV) (m r : Int) : Bool := decide (tabE S C K m r = 0) && decide (kcE S C K (cutM S C m) r = 0)

def sh_clCt : List SV → Option (List SV)
  | [l'] => (match slOf [.str, .int .i64, .sl [.int .i64, .int .i64, .int .i64], .int .i64, .int .i64, .int .i64] l' with | some l => some l | _ => none)
  | _ => none
def em_clCt : List SV → List SV := fun l => [.sl [.str, .int .i64, .sl [.int .i64, .int .i64, .int .i64], .int .i64, .int .i64, .int .i64] l]
theorem sh_clCt_le : ∀ us a, sh_clCt us = some a → leL us (em_clCt a) := by
  intro us a h
  unfold sh_clCt at h
  split at h
  · split at h
    · cases h; exact (.cons (.sl (by assumption)) .nil)
    · cases h
  · cases h
def clCtC : Con := conOf sh_clCt (fun l => some (Ob (l.length ≤ 1000))) (fun l => .own 49 ctK l)
set_option maxRecDepth 100000 in
theorem vc_clCt (l : List SV) : (wpF ⟨8, tyT, [], false, 0, [], false⟩ (noAnn) [] Tryd.f27 (em_clCt l) (.own 49 ctK l)) = ((((l = []) → (l = [])) ∧ (Ob (((((0 : Nat) + l.length) * (72 : Nat) ≤ (1099511627776 : Nat)) ∧ ((0 : Nat) + l.length ≤ (1099511627776 : Nat)))) ∧ ((True) ∧ ([] ++ l = l))))) := by kernel_rfl
def sh_clKd : List SV → Option (List SV)
  | [l'] => (match slOf [.str, .int .i64, .int .i64, .int .i64] l' with | some l => some l | _ => none)
  | _ => none
def em_clKd : List SV → List SV := fun l => [.sl [.str, .int .i64, .int .i64, .int .i64] l]
theorem sh_clKd_le : ∀ us a, sh_clKd us = some a → leL us (em_clKd a) := by
  intro us a h
  unfold sh_clKd at h
  split at h
  · split at h
    · cases h; exact (.cons (.sl (by assumption)) .nil)
    · cases h
  · cases h
def clKdC : Con := conOf sh_clKd (fun l => some (Ob (l.length ≤ 1000))) (fun l => .own 61 kdK l)
set_option maxRecDepth 100000 in
theorem vc_clKd (l : List SV) : (wpF ⟨8, tyT, [], false, 0, [], false⟩ (noAnn) [] Tryd.f28 (em_clKd l) (.own 61 kdK l)) = ((((l = []) → (l = [])) ∧ (Ob (((((0 : Nat) + l.length) * (40 : Nat) ≤ (1099511627776 : Nat)) ∧ ((0 : Nat) + l.length ≤ (1099511627776 : Nat)))) ∧ ((True) ∧ ([] ++ l = l))))) := by kernel_rfl
def sh_clBd : List SV → Option (List SV)
  | [l'] => (match slOf [.int .i64, .int .i64, .int .i64] l' with | some l => some l | _ => none)
  | _ => none
def em_clBd : List SV → List SV := fun l => [.sl [.int .i64, .int .i64, .int .i64] l]
theorem sh_clBd_le : ∀ us a, sh_clBd us = some a → leL us (em_clBd a) := by
  intro us a h
  unfold sh_clBd at h
  split at h
  · split at h
    · cases h; exact (.cons (.sl (by assumption)) .nil)
    · cases h
  · cases h
def clBdC : Con := conOf sh_clBd (fun l => some (Ob (l.length ≤ 1000))) (fun l => .own 52 bandK l)
set_option maxRecDepth 100000 in
theorem vc_clBd (l : List SV) : (wpF ⟨8, tyT, [], false, 0, [], false⟩ (noAnn) [] Tryd.f29 (em_clBd l) (.own 52 bandK l)) = ((((l = []) → (l = [])) ∧ (Ob (((((0 : Nat) + l.length) * (24 : Nat) ≤ (1099511627776 : Nat)) ∧ ((0 : Nat) + l.length ≤ (1099511627776 : Nat)))) ∧ ((True) ∧ ([] ++ l = l))))) := by kernel_rfl
def sh_tclone : List SV → Option ((List SV) × (List SV) × (List SV) × Int × Int)
  | [.agg [S', C', K', .int .i64 m, .int .i64 r]] => (match slOf [.sl [.int .i64, .int .i64, .int .i64]] S' with | some S => (match slOf [.str, .int .i64, .sl [.int .i64, .int .i64, .int .i64], .int .i64, .int .i64, .int .i64] C' with | some C => (match slOf [.str, .int .i64, .int .i64, .int .i64] K' with | some K => some (S, C, K, m, r) | _ => none) | _ => none) | _ => none)
  | _ => none
def em_tclone : (List SV) × (List SV) × (List SV) × Int × Int → List SV := fun (S, C, K, m, r) => [.agg [.sl [.sl [.int .i64, .int .i64, .int .i64]] S, .sl [.str, .int .i64, .sl [.int .i64, .int .i64, .int .i64], .int .i64, .int .i64, .int .i64] C, .sl [.str, .int .i64, .int .i64, .int .i64] K, .int .i64 m, .int .i64 r]]
theorem sh_tclone_le : ∀ us a, sh_tclone us = some a → leL us (em_tclone a) := by
  intro us a h
  unfold sh_tclone at h
  split at h
  · split at h
    · split at h
      · split at h
        · cases h; exact (.cons (.agg (.cons (.sl (by assumption)) (.cons (.sl (by assumption)) (.cons (.sl (by assumption)) (.cons (.refl _) (.cons (.refl _) .nil)))))) .nil)
        · cases h
      · cases h
    · cases h
  · cases h
def tcloneC : Con := conOf sh_tclone (fun (S, C, K, m, r) => some (Ob (tclP S C K))) (fun (S, C, K, m, r) => .agg [.sl [.sl bandK] S, .sl ctK C, .sl kdK K, .int .i64 m, .int .i64 r])
set_option maxRecDepth 100000 in
theorem vc_tclone (S : List SV) (C : List SV) (K : List SV) (m : Int) (r : Int) : (wpF ⟨52, tyT, [(27, clCtC), (28, clKdC), (29, clBdC)], false, 0, [], false⟩ ((tcF_an S C K m r)) [] Tryd.f12 (em_tclone (S, C, K, m, r)) (.agg [.sl [.sl bandK] S, .sl ctK C, .sl kdK K, .int .i64 m, .int .i64 r])) = ((Ob ((C.length ≤ (1000 : Nat))) ∧ (Ob ((K.length ≤ (1000 : Nat))) ∧ ((∃ (x1 : Nat), ((S = S) ∧ (((↑S.length : Int) = (↑S.length : Int)) ∧ (((0 : Int) = (↑x1 : Int)) ∧ (((0 : Int) = (0 : Int)) ∧ (((0 : Int) = (0 : Int)) ∧ ((m = m) ∧ ((r = r) ∧ (([] = clS S x1) ∧ ((C = C) ∧ ((K = K) ∧ (((x1 ≤ S.length) ∧ (tclP S C K)) ∧ ((True) ∧ (True)))))))))))))) ∧ (∀ (x2 : Nat), (((x2 ≤ S.length) ∧ (tclP S C K)) → (((decide ((↑x2 : Int) < (↑S.length : Int)) = true) → (Ob ((((0 : Int) ≤ (↑x2 : Int)) ∧ ((↑x2 : Int) < (↑S.length : Int)))) ∧ (Ob (((elCell S x2 (0 : Nat)).toSl.length ≤ (1000 : Nat))) ∧ (Ob (((((clS S x2).length + (1 : Nat)) * (24 : Nat) ≤ (1099511627776 : Nat)) ∧ ((clS S x2).length + (1 : Nat) ≤ (1099511627776 : Nat)))) ∧ (∃ (x3 : Nat), ((S = S) ∧ (((↑S.length : Int) = (↑S.length : Int)) ∧ ((IntKind.i64.wrap ((↑x2 : Int) + (1 : Int)) = (↑x3 : Int)) ∧ (((0 : Int) = (0 : Int)) ∧ (((0 : Int) = (0 : Int)) ∧ ((m = m) ∧ ((r = r) ∧ ((clS S x2 ++ [SV.sl bandK (elCell S x2 (0 : Nat)).toSl] = clS S x3) ∧ ((C = C) ∧ ((K = K) ∧ (((x3 ≤ S.length) ∧ (tclP S C K)) ∧ ((S.length - x3 < S.length - x2) ∧ (True)))))))))))))))))) ∧ ((decide ((↑x2 : Int) < (↑S.length : Int)) = false) → ((∃ (x4 : Nat), (((↑C.length : Int) = (↑C.length : Int)) ∧ (((0 : Int) = (↑x4 : Int)) ∧ (((0 : Int) = (0 : Int)) ∧ (((0 : Int) = (0 : Int)) ∧ ((m = m) ∧ ((r = r) ∧ ((clS S x2 = S) ∧ ((C = C) ∧ ((K = K) ∧ (((x4 ≤ C.length) ∧ (tclP S C K)) ∧ ((True) ∧ (True))))))))))))) ∧ (∀ (x5 : Nat), (((x5 ≤ C.length) ∧ (tclP S C K)) → (((decide ((↑x5 : Int) < (↑C.length : Int)) = true) → (Ob ((((0 : Int) ≤ (↑x5 : Int)) ∧ ((↑x5 : Int) < (↑C.length : Int)))) ∧ (Ob ((x5 < C.length)) ∧ (Ob ((x5 < C.length)) ∧ (Ob (((elCell C x5 (2 : Nat)).toSl.length ≤ (1000 : Nat))) ∧ (Ob ((((0 : Int) ≤ (↑x5 : Int)) ∧ ((↑x5 : Int) < (↑C.length : Int)))) ∧ (Ob ((x5 < C.length)) ∧ (Ob ((x5 < C.length)) ∧ (∃ (x6 : Nat), (((↑C.length : Int) = (↑C.length : Int)) ∧ ((IntKind.i64.wrap ((↑x5 : Int) + (1 : Int)) = (↑x6 : Int)) ∧ (((0 : Int) = (0 : Int)) ∧ (((0 : Int) = (0 : Int)) ∧ ((m = m) ∧ ((r = r) ∧ ((S = S) ∧ ((C.set x5 (SV.agg (setL (C.getD x5 SV.any).cells (2 : Nat) [SV.sl bandK (elCell C x5 (2 : Nat)).toSl])) = C) ∧ ((K = K) ∧ (((x6 ≤ C.length) ∧ (tclP S C K)) ∧ ((C.length - x6 < C.length - x5) ∧ (True))))))))))))))))))))) ∧ ((decide ((↑x5 : Int) < (↑C.length : Int)) = false) → ((S = S) ∧ ((C = C) ∧ ((K = K) ∧ ((m = m) ∧ ((r = r) ∧ (True))))))))))))))))))) := by kernel_rfl
def sh_eqBd : List SV → Option ((List SV) × (List SV))
  | [a', b'] => (match slOf [.int .i64, .int .i64, .int .i64] a' with | some a => (match slOf [.int .i64, .int .i64, .int .i64] b' with | some b => some (a, b) | _ => none) | _ => none)
  | _ => none
def em_eqBd : (List SV) × (List SV) → List SV := fun (a, b) => [.sl [.int .i64, .int .i64, .int .i64] a, .sl [.int .i64, .int .i64, .int .i64] b]
theorem sh_eqBd_le : ∀ us a, sh_eqBd us = some a → leL us (em_eqBd a) := by
  intro us a h
  unfold sh_eqBd at h
  split at h
  · split at h
    · split at h
      · cases h; exact (.cons (.sl (by assumption)) (.cons (.sl (by assumption)) .nil))
      · cases h
    · cases h
  · cases h
def eqBdC : Con := conOf sh_eqBd (fun (a, b) => some (Ob (a = b ∧ a.length ≤ 1000))) (fun (a, b) => .bool true)
set_option maxRecDepth 100000 in
theorem vc_eqBd (a : List SV) (b : List SV) : (wpF ⟨26, tyT, [], false, 0, [], false⟩ ((eqx_an bandK a b)) [] Tryd.f31 (em_eqBd (a, b)) (.bool true)) = (((((!decide ((↑a.length : Int) = (↑b.length : Int))) = true) → ((true = false) ∧ (True))) ∧ (((!decide ((↑a.length : Int) = (↑b.length : Int))) = false) → ((∃ (x1 : Nat), ((a = a) ∧ ((b = b) ∧ (((↑a.length : Int) = (↑a.length : Int)) ∧ (((0 : Int) = (↑x1 : Int)) ∧ (((x1 ≤ a.length) ∧ ((a = b) ∧ (a.length ≤ (1000 : Nat)))) ∧ ((True) ∧ (True)))))))) ∧ (∀ (x2 : Nat), (((x2 ≤ a.length) ∧ ((a = b) ∧ (a.length ≤ (1000 : Nat)))) → (((decide ((↑x2 : Int) < (↑a.length : Int)) = true) → (Ob ((((0 : Int) ≤ (↑x2 : Int)) ∧ ((↑x2 : Int) < (↑a.length : Int)))) ∧ (Ob ((((0 : Int) ≤ (↑x2 : Int)) ∧ ((↑x2 : Int) < (↑b.length : Int)))) ∧ ((((!(decide ((elCell a x2 (0 : Nat)).toInt = (elCell b x2 (0 : Nat)).toInt) && (decide ((elCell a x2 (1 : Nat)).toInt = (elCell b x2 (1 : Nat)).toInt) && decide ((elCell a x2 (2 : Nat)).toInt = (elCell b x2 (2 : Nat)).toInt)))) = true) → ((true = false) ∧ (True))) ∧ (((!(decide ((elCell a x2 (0 : Nat)).toInt = (elCell b x2 (0 : Nat)).toInt) && (decide ((elCell a x2 (1 : Nat)).toInt = (elCell b x2 (1 : Nat)).toInt) && decide ((elCell a x2 (2 : Nat)).toInt = (elCell b x2 (2 : Nat)).toInt)))) = false) → (∃ (x3 : Nat), ((a = a) ∧ ((b = b) ∧ (((↑a.length : Int) = (↑a.length : Int)) ∧ ((IntKind.i64.wrap ((↑x2 : Int) + (1 : Int)) = (↑x3 : Int)) ∧ (((x3 ≤ a.length) ∧ ((a = b) ∧ (a.length ≤ (1000 : Nat)))) ∧ ((a.length - x3 < a.length - x2) ∧ (True))))))))))))) ∧ ((decide ((↑x2 : Int) < (↑a.length : Int)) = false) → ((true = true) ∧ (True)))))))))) := by kernel_rfl
def sh_eqKd : List SV → Option ((List SV) × (List SV))
  | [a', b'] => (match slOf [.str, .int .i64, .int .i64, .int .i64] a' with | some a => (match slOf [.str, .int .i64, .int .i64, .int .i64] b' with | some b => some (a, b) | _ => none) | _ => none)
  | _ => none
def em_eqKd : (List SV) × (List SV) → List SV := fun (a, b) => [.sl [.str, .int .i64, .int .i64, .int .i64] a, .sl [.str, .int .i64, .int .i64, .int .i64] b]
theorem sh_eqKd_le : ∀ us a, sh_eqKd us = some a → leL us (em_eqKd a) := by
  intro us a h
  unfold sh_eqKd at h
  split at h
  · split at h
    · split at h
      · cases h; exact (.cons (.sl (by assumption)) (.cons (.sl (by assumption)) .nil))
      · cases h
    · cases h
  · cases h
def eqKdC : Con := conOf sh_eqKd (fun (a, b) => some (Ob (a = b ∧ a.length ≤ 1000))) (fun (a, b) => .bool true)
set_option maxRecDepth 100000 in
theorem vc_eqKd (a : List SV) (b : List SV) : (wpF ⟨26, tyT, [], false, 0, [], false⟩ ((eqx_an kdK a b)) [] Tryd.f32 (em_eqKd (a, b)) (.bool true)) = (((((!decide ((↑a.length : Int) = (↑b.length : Int))) = true) → ((true = false) ∧ (True))) ∧ (((!decide ((↑a.length : Int) = (↑b.length : Int))) = false) → ((∃ (x1 : Nat), ((a = a) ∧ ((b = b) ∧ (((↑a.length : Int) = (↑a.length : Int)) ∧ (((0 : Int) = (↑x1 : Int)) ∧ (((x1 ≤ a.length) ∧ ((a = b) ∧ (a.length ≤ (1000 : Nat)))) ∧ ((True) ∧ (True)))))))) ∧ (∀ (x2 : Nat), (((x2 ≤ a.length) ∧ ((a = b) ∧ (a.length ≤ (1000 : Nat)))) → (((decide ((↑x2 : Int) < (↑a.length : Int)) = true) → (Ob ((((0 : Int) ≤ (↑x2 : Int)) ∧ ((↑x2 : Int) < (↑a.length : Int)))) ∧ (Ob ((((0 : Int) ≤ (↑x2 : Int)) ∧ ((↑x2 : Int) < (↑b.length : Int)))) ∧ ((((!(decide ((elCell a x2 (0 : Nat)).toStr = (elCell b x2 (0 : Nat)).toStr) && (decide ((elCell a x2 (1 : Nat)).toInt = (elCell b x2 (1 : Nat)).toInt) && (decide ((elCell a x2 (2 : Nat)).toInt = (elCell b x2 (2 : Nat)).toInt) && decide ((elCell a x2 (3 : Nat)).toInt = (elCell b x2 (3 : Nat)).toInt))))) = true) → ((true = false) ∧ (True))) ∧ (((!(decide ((elCell a x2 (0 : Nat)).toStr = (elCell b x2 (0 : Nat)).toStr) && (decide ((elCell a x2 (1 : Nat)).toInt = (elCell b x2 (1 : Nat)).toInt) && (decide ((elCell a x2 (2 : Nat)).toInt = (elCell b x2 (2 : Nat)).toInt) && decide ((elCell a x2 (3 : Nat)).toInt = (elCell b x2 (3 : Nat)).toInt))))) = false) → (∃ (x3 : Nat), ((a = a) ∧ ((b = b) ∧ (((↑a.length : Int) = (↑a.length : Int)) ∧ ((IntKind.i64.wrap ((↑x2 : Int) + (1 : Int)) = (↑x3 : Int)) ∧ (((x3 ≤ a.length) ∧ ((a = b) ∧ (a.length ≤ (1000 : Nat)))) ∧ ((a.length - x3 < a.length - x2) ∧ (True))))))))))))) ∧ ((decide ((↑x2 : Int) < (↑a.length : Int)) = false) → ((true = true) ∧ (True)))))))))) := by kernel_rfl
def sh_like : List SV → Option ((List UInt8) × Int × (List SV) × Int × Int × Int × (List UInt8) × Int × (List SV) × Int × Int × Int)
  | [.agg [.str n, .int .i64 x, a', .int .i64 p, .int .i64 y, .int .i64 r], .agg [.str n', .int .i64 x', a'', .int .i64 p', .int .i64 y', .int .i64 r']] => (match slOf [.int .i64, .int .i64, .int .i64] a' with | some a => (match slOf [.int .i64, .int .i64, .int .i64] a'' with | some a' => some (n, x, a, p, y, r, n', x', a', p', y', r') | _ => none) | _ => none)
  | _ => none
def em_like : (List UInt8) × Int × (List SV) × Int × Int × Int × (List UInt8) × Int × (List SV) × Int × Int × Int → List SV := fun (n, x, a, p, y, r, n', x', a', p', y', r') => [.agg [.str n, .int .i64 x, .sl [.int .i64, .int .i64, .int .i64] a, .int .i64 p, .int .i64 y, .int .i64 r], .agg [.str n', .int .i64 x', .sl [.int .i64, .int .i64, .int .i64] a', .int .i64 p', .int .i64 y', .int .i64 r']]
theorem sh_like_le : ∀ us a, sh_like us = some a → leL us (em_like a) := by
  intro us a h
  unfold sh_like at h
  split at h
  · split at h
    · split at h
      · cases h; exact (.cons (.agg (.cons (.refl _) (.cons (.refl _) (.cons (.sl (by assumption)) (.cons (.refl _) (.cons (.refl _) (.cons (.refl _) .nil))))))) (.cons (.agg (.cons (.refl _) (.cons (.refl _) (.cons (.sl (by assumption)) (.cons (.refl _) (.cons (.refl _) (.cons (.refl _) .nil))))))) .nil))
      · cases h
    · cases h
  · cases h
def likeC : Con := conOf sh_like (fun (n, x, a, p, y, r, n', x', a', p', y', r') => some (Ob ((n = n' ∧ x = x' ∧ a = a' ∧ p = p' ∧ y = y' ∧ r = r') ∧ a.length ≤ 1000))) (fun (n, x, a, p, y, r, n', x', a', p', y', r') => .bool true)
set_option maxRecDepth 100000 in
theorem vc_like (n : List UInt8) (x : Int) (a : List SV) (p : Int) (y : Int) (r : Int) (n' : List UInt8) (x' : Int) (a' : List SV) (p' : Int) (y' : Int) (r' : Int) : (wpF ⟨45, tyT, [(31, eqBdC)], false, 0, [], false⟩ (noAnn) [] Tryd.f30 (em_like (n, x, a, p, y, r, n', x', a', p', y', r')) (.bool true)) = ((((decide (n = n') = true) → (((decide (x = x') = true) → (((decide (p = p') = true) → (((decide (y = y') = true) → (((decide (r = r') = true) → (Ob (((a = a') ∧ (a.length ≤ (1000 : Nat)))) ∧ ((true = true) ∧ (True)))) ∧ ((decide (r = r') = false) → ((true = false) ∧ (True))))) ∧ ((decide (y = y') = false) → ((true = false) ∧ (True))))) ∧ ((decide (p = p') = false) → ((true = false) ∧ (True))))) ∧ ((decide (x = x') = false) → ((true = false) ∧ (True))))) ∧ ((decide (n = n') = false) → ((true = false) ∧ (True))))) := by kernel_rfl
def sh_alike : List SV → Option ((List SV) × (List SV))
  | [a', b'] => (match slOf [.int .i64, .int .i64, .int .i64] a' with | some a => (match slOf [.int .i64, .int .i64, .int .i64] b' with | some b => some (a, b) | _ => none) | _ => none)
  | _ => none
def em_alike : (List SV) × (List SV) → List SV := fun (a, b) => [.sl [.int .i64, .int .i64, .int .i64] a, .sl [.int .i64, .int .i64, .int .i64] b]
theorem sh_alike_le : ∀ us a, sh_alike us = some a → leL us (em_alike a) := by
  intro us a h
  unfold sh_alike at h
  split at h
  · split at h
    · split at h
      · cases h; exact (.cons (.sl (by assumption)) (.cons (.sl (by assumption)) .nil))
      · cases h
    · cases h
  · cases h
def alikeC : Con := conOf sh_alike (fun (a, b) => some (Ob (a = b ∧ a.length ≤ 1000))) (fun (a, b) => .bool true)
set_option maxRecDepth 100000 in
theorem vc_alike (a : List SV) (b : List SV) : (wpF ⟨8, tyT, [(31, eqBdC)], false, 0, [], false⟩ (noAnn) [] Tryd.f35 (em_alike (a, b)) (.bool true)) = ((Ob (((a = b) ∧ (a.length ≤ (1000 : Nat)))) ∧ ((true = true) ∧ (True)))) := by kernel_rfl
def sh_eqfC : List SV → Option ((List SV) × (List SV))
  | [a', b', .fn 30 []] => (match slOf [.str, .int .i64, .sl [.int .i64, .int .i64, .int .i64], .int .i64, .int .i64, .int .i64] a' with | some a => (match slOf [.str, .int .i64, .sl [.int .i64, .int .i64, .int .i64], .int .i64, .int .i64, .int .i64] b' with | some b => some (a, b) | _ => none) | _ => none)
  | _ => none
def em_eqfC : (List SV) × (List SV) → List SV := fun (a, b) => [.sl [.str, .int .i64, .sl [.int .i64, .int .i64, .int .i64], .int .i64, .int .i64, .int .i64] a, .sl [.str, .int .i64, .sl [.int .i64, .int .i64, .int .i64], .int .i64, .int .i64, .int .i64] b, .fn 30 []]
theorem sh_eqfC_le : ∀ us a, sh_eqfC us = some a → leL us (em_eqfC a) := by
  intro us a h
  unfold sh_eqfC at h
  split at h
  · split at h
    · split at h
      · cases h; exact (.cons (.sl (by assumption)) (.cons (.sl (by assumption)) (.cons (.refl _) .nil)))
      · cases h
    · cases h
  · cases h
def eqfCC : Con := conOf sh_eqfC (fun (a, b) => some (Ob (a = b ∧ a.length ≤ 1000 ∧ ∀ i, i < a.length → (ctB a i).length ≤ 1000))) (fun (a, b) => .bool true)
set_option maxRecDepth 100000 in
theorem vc_eqfC (a : List SV) (b : List SV) : (wpF ⟨32, tyT, [(30, likeC)], false, 0, [], false⟩ ((eqf_an ctK a b 30 (∀ i, i < a.length → (ctB a i).length ≤ 1000))) [] Tryd.f33 (em_eqfC (a, b)) (.bool true)) = (((((!decide ((↑a.length : Int) = (↑b.length : Int))) = true) → ((true = false) ∧ (True))) ∧ (((!decide ((↑a.length : Int) = (↑b.length : Int))) = false) → ((∃ (x1 : Nat), ((b = b) ∧ ((SV.fn (30 : Nat) [] = SV.fn (30 : Nat) []) ∧ ((a = a) ∧ (((↑a.length : Int) = (↑a.length : Int)) ∧ (((0 : Int) = (↑x1 : Int)) ∧ (((x1 ≤ a.length) ∧ ((a = b) ∧ ((a.length ≤ (1000 : Nat)) ∧ (∀ (i2 : Nat), ((i2 < a.length) → ((ctB a i2).length ≤ (1000 : Nat))))))) ∧ ((True) ∧ (True))))))))) ∧ (∀ (x3 : Nat), (((x3 ≤ a.length) ∧ ((a = b) ∧ ((a.length ≤ (1000 : Nat)) ∧ (∀ (i4 : Nat), ((i4 < a.length) → ((ctB a i4).length ≤ (1000 : Nat))))))) → (((decide ((↑x3 : Int) < (↑a.length : Int)) = true) → (Ob ((((0 : Int) ≤ (↑x3 : Int)) ∧ ((↑x3 : Int) < (↑a.length : Int)))) ∧ (Ob ((((0 : Int) ≤ (↑x3 : Int)) ∧ ((↑x3 : Int) < (↑b.length : Int)))) ∧ (Ob (((((elCell a x3 (0 : Nat)).toStr = (elCell b x3 (0 : Nat)).toStr) ∧ (((elCell a x3 (1 : Nat)).toInt = (elCell b x3 (1 : Nat)).toInt) ∧ (((elCell a x3 (2 : Nat)).toSl = (elCell b x3 (2 : Nat)).toSl) ∧ (((elCell a x3 (3 : Nat)).toInt = (elCell b x3 (3 : Nat)).toInt) ∧ (((elCell a x3 (4 : Nat)).toInt = (elCell b x3 (4 : Nat)).toInt) ∧ ((elCell a x3 (5 : Nat)).toInt = (elCell b x3 (5 : Nat)).toInt)))))) ∧ ((elCell a x3 (2 : Nat)).toSl.length ≤ (1000 : Nat)))) ∧ ((((!true) = true) → ((true = false) ∧ (True))) ∧ (((!true) = false) → (∃ (x5 : Nat), ((b = b) ∧ ((SV.fn (30 : Nat) [] = SV.fn (30 : Nat) []) ∧ ((a = a) ∧ (((↑a.length : Int) = (↑a.length : Int)) ∧ ((IntKind.i64.wrap ((↑x3 : Int) + (1 : Int)) = (↑x5 : Int)) ∧ (((x5 ≤ a.length) ∧ ((a = b) ∧ ((a.length ≤ (1000 : Nat)) ∧ (∀ (i6 : Nat), ((i6 < a.length) → ((ctB a i6).length ≤ (1000 : Nat))))))) ∧ ((a.length - x5 < a.length - x3) ∧ (True))))))))))))))) ∧ ((decide ((↑x3 : Int) < (↑a.length : Int)) = false) → ((true = true) ∧ (True)))))))))) := by kernel_rfl
def sh_eqfS : List SV → Option ((List SV) × (List SV))
  | [a', b', .fn 35 []] => (match slOf [.sl [.int .i64, .int .i64, .int .i64]] a' with | some a => (match slOf [.sl [.int .i64, .int .i64, .int .i64]] b' with | some b => some (a, b) | _ => none) | _ => none)
  | _ => none
def em_eqfS : (List SV) × (List SV) → List SV := fun (a, b) => [.sl [.sl [.int .i64, .int .i64, .int .i64]] a, .sl [.sl [.int .i64, .int .i64, .int .i64]] b, .fn 35 []]
theorem sh_eqfS_le : ∀ us a, sh_eqfS us = some a → leL us (em_eqfS a) := by
  intro us a h
  unfold sh_eqfS at h
  split at h
  · split at h
    · split at h
      · cases h; exact (.cons (.sl (by assumption)) (.cons (.sl (by assumption)) (.cons (.refl _) .nil)))
      · cases h
    · cases h
  · cases h
def eqfSC : Con := conOf sh_eqfS (fun (a, b) => some (Ob (a = b ∧ a.length ≤ 1000 ∧ ∀ i, i < a.length → (sch a i).length ≤ 1000))) (fun (a, b) => .bool true)
set_option maxRecDepth 100000 in
theorem vc_eqfS (a : List SV) (b : List SV) : (wpF ⟨32, tyT, [(35, alikeC)], false, 0, [], false⟩ ((eqf_an [.sl bandK] a b 35 (∀ i, i < a.length → (sch a i).length ≤ 1000))) [] Tryd.f34 (em_eqfS (a, b)) (.bool true)) = (((((!decide ((↑a.length : Int) = (↑b.length : Int))) = true) → ((true = false) ∧ (True))) ∧ (((!decide ((↑a.length : Int) = (↑b.length : Int))) = false) → ((∃ (x1 : Nat), ((b = b) ∧ ((SV.fn (35 : Nat) [] = SV.fn (35 : Nat) []) ∧ ((a = a) ∧ (((↑a.length : Int) = (↑a.length : Int)) ∧ (((0 : Int) = (↑x1 : Int)) ∧ (((x1 ≤ a.length) ∧ ((a = b) ∧ ((a.length ≤ (1000 : Nat)) ∧ (∀ (i2 : Nat), ((i2 < a.length) → ((sch a i2).length ≤ (1000 : Nat))))))) ∧ ((True) ∧ (True))))))))) ∧ (∀ (x3 : Nat), (((x3 ≤ a.length) ∧ ((a = b) ∧ ((a.length ≤ (1000 : Nat)) ∧ (∀ (i4 : Nat), ((i4 < a.length) → ((sch a i4).length ≤ (1000 : Nat))))))) → (((decide ((↑x3 : Int) < (↑a.length : Int)) = true) → (Ob ((((0 : Int) ≤ (↑x3 : Int)) ∧ ((↑x3 : Int) < (↑a.length : Int)))) ∧ (Ob ((((0 : Int) ≤ (↑x3 : Int)) ∧ ((↑x3 : Int) < (↑b.length : Int)))) ∧ (Ob ((((elCell a x3 (0 : Nat)).toSl = (elCell b x3 (0 : Nat)).toSl) ∧ ((elCell a x3 (0 : Nat)).toSl.length ≤ (1000 : Nat)))) ∧ ((((!true) = true) → ((true = false) ∧ (True))) ∧ (((!true) = false) → (∃ (x5 : Nat), ((b = b) ∧ ((SV.fn (35 : Nat) [] = SV.fn (35 : Nat) []) ∧ ((a = a) ∧ (((↑a.length : Int) = (↑a.length : Int)) ∧ ((IntKind.i64.wrap ((↑x3 : Int) + (1 : Int)) = (↑x5 : Int)) ∧ (((x5 ≤ a.length) ∧ ((a = b) ∧ ((a.length ≤ (1000 : Nat)) ∧ (∀ (i6 : Nat), ((i6 < a.length) → ((sch a i6).length ≤ (1000 : Nat))))))) ∧ ((a.length - x5 < a.length - x3) ∧ (True))))))))))))))) ∧ ((decide ((↑x3 : Int) < (↑a.length : Int)) = false) → ((true = true) ∧ (True)))))))))) := by kernel_rfl
def sh_tsame : List SV → Option ((List SV) × (List SV) × (List SV) × Int × Int × (List SV) × (List SV) × (List SV) × Int × Int)
  | [.agg [S', C', K', .int .i64 m, .int .i64 r], .agg [S'', C'', K'', .int .i64 m', .int .i64 r']] => (match slOf [.sl [.int .i64, .int .i64, .int .i64]] S' with | some S => (match slOf [.str, .int .i64, .sl [.int .i64, .int .i64, .int .i64], .int .i64, .int .i64, .int .i64] C' with | some C => (match slOf [.str, .int .i64, .int .i64, .int .i64] K' with | some K => (match slOf [.sl [.int .i64, .int .i64, .int .i64]] S'' with | some S' => (match slOf [.str, .int .i64, .sl [.int .i64, .int .i64, .int .i64], .int .i64, .int .i64, .int .i64] C'' with | some C' => (match slOf [.str, .int .i64, .int .i64, .int .i64] K'' with | some K' => some (S, C, K, m, r, S', C', K', m', r') | _ => none) | _ => none) | _ => none) | _ => none) | _ => none) | _ => none)
  | _ => none
def em_tsame : (List SV) × (List SV) × (List SV) × Int × Int × (List SV) × (List SV) × (List SV) × Int × Int → List SV := fun (S, C, K, m, r, S', C', K', m', r') => [.agg [.sl [.sl [.int .i64, .int .i64, .int .i64]] S, .sl [.str, .int .i64, .sl [.int .i64, .int .i64, .int .i64], .int .i64, .int .i64, .int .i64] C, .sl [.str, .int .i64, .int .i64, .int .i64] K, .int .i64 m, .int .i64 r], .agg [.sl [.sl [.int .i64, .int .i64, .int .i64]] S', .sl [.str, .int .i64, .sl [.int .i64, .int .i64, .int .i64], .int .i64, .int .i64, .int .i64] C', .sl [.str, .int .i64, .int .i64, .int .i64] K', .int .i64 m', .int .i64 r']]
theorem sh_tsame_le : ∀ us a, sh_tsame us = some a → leL us (em_tsame a) := by
  intro us a h
  unfold sh_tsame at h
  split at h
  · split at h
    · split at h
      · split at h
        · split at h
          · split at h
            · split at h
              · cases h; exact (.cons (.agg (.cons (.sl (by assumption)) (.cons (.sl (by assumption)) (.cons (.sl (by assumption)) (.cons (.refl _) (.cons (.refl _) .nil)))))) (.cons (.agg (.cons (.sl (by assumption)) (.cons (.sl (by assumption)) (.cons (.sl (by assumption)) (.cons (.refl _) (.cons (.refl _) .nil)))))) .nil))
              · cases h
            · cases h
          · cases h
        · cases h
      · cases h
    · cases h
  · cases h
def tsameC : Con := conOf sh_tsame (fun (S, C, K, m, r, S', C', K', m', r') => some (Ob ((S = S' ∧ C = C' ∧ K = K') ∧ tclP S C K))) (fun (S, C, K, m, r, S', C', K', m', r') => .bool (decide (m = m') && decide (r = r')))
set_option maxRecDepth 100000 in
theorem vc_tsame (S : List SV) (C : List SV) (K : List SV) (m : Int) (r : Int) (S' : List SV) (C' : List SV) (K' : List SV) (m' : Int) (r' : Int) : (wpF ⟨40, tyT, [(32, eqKdC), (33, eqfCC), (34, eqfSC)], false, 0, [], false⟩ (noAnn) [] Tryd.f13 (em_tsame (S, C, K, m, r, S', C', K', m', r')) (.bool (decide (m = m') && decide (r = r')))) = (((((!decide (m = m')) = true) → (((decide (m = m') && decide (r = r')) = false) ∧ (True))) ∧ (((!decide (m = m')) = false) → ((((!decide (r = r')) = true) → (((decide (m = m') && decide (r = r')) = false) ∧ (True))) ∧ (((!decide (r = r')) = false) → (Ob (((K = K') ∧ (K.length ≤ (1000 : Nat)))) ∧ ((((!true) = true) → (((decide (m = m') && decide (r = r')) = false) ∧ (True))) ∧ (((!true) = false) → (Ob (((C = C') ∧ ((C.length ≤ (1000 : Nat)) ∧ (∀ (i1 : Nat), ((i1 < C.length) → ((ctB C i1).length ≤ (1000 : Nat))))))) ∧ ((((!true) = true) → (((decide (m = m') && decide (r = r')) = false) ∧ (True))) ∧ (((!true) = false) → (Ob (((S = S') ∧ ((S.length ≤ (1000 : Nat)) ∧ (∀ (i2 : Nat), ((i2 < S.length) → ((sch S i2).length ≤ (1000 : Nat))))))) ∧ ((true = (decide (m = m') && decide (r = r'))) ∧ (True)))))))))))))) := by kernel_rfl
def sh_kroom : List SV → Option ((List SV) × (List SV) × (List SV) × Int × Int)
  | [.agg [S', C', K', .int .i64 m, .int .i64 r]] => (match slOf [.sl [.int .i64, .int .i64, .int .i64]] S' with | some S => (match slOf [.str, .int .i64, .sl [.int .i64, .int .i64, .int .i64], .int .i64, .int .i64, .int .i64] C' with | some C => (match slOf [.str, .int .i64, .int .i64, .int .i64] K' with | some K => some (S, C, K, m, r) | _ => none) | _ => none) | _ => none)
  | _ => none
def em_kroom : (List SV) × (List SV) × (List SV) × Int × Int → List SV := fun (S, C, K, m, r) => [.agg [.sl [.sl [.int .i64, .int .i64, .int .i64]] S, .sl [.str, .int .i64, .sl [.int .i64, .int .i64, .int .i64], .int .i64, .int .i64, .int .i64] C, .sl [.str, .int .i64, .int .i64, .int .i64] K, .int .i64 m, .int .i64 r]]
theorem sh_kroom_le : ∀ us a, sh_kroom us = some a → leL us (em_kroom a) := by
  intro us a h
  unfold sh_kroom at h
  split at h
  · split at h
    · split at h
      · split at h
        · cases h; exact (.cons (.agg (.cons (.sl (by assumption)) (.cons (.sl (by assumption)) (.cons (.sl (by assumption)) (.cons (.refl _) (.cons (.refl _) .nil)))))) .nil)
        · cases h
      · cases h
    · cases h
  · cases h
def kroomC : Con := conOf sh_kroom (fun _ => none) (fun (S, C, K, m, r) => .tup [.int .i64 (wo S C K m r (wK S C m - 500)), .int .i64 (tabE S C K m r)])
set_option maxRecDepth 100000 in
theorem vc_kroom (S : List SV) (C : List SV) (K : List SV) (m : Int) (r : Int) : (wpF ⟨17, tyT, [(10, kworstC)], false, 0, [], false⟩ (noAnn) [] Tryd.f7 (em_kroom (S, C, K, m, r)) (.tup [.int .i64 (wo S C K m r (wK S C m - 500)), .int .i64 (tabE S C K m r)])) = (((((!decide (tabE S C K m r = (0 : Int))) = true) → (((0 : Int) = wo S C K m r (wK S C m - (500 : Int))) ∧ ((tabE S C K m r = tabE S C K m r) ∧ (True)))) ∧ (((!decide (tabE S C K m r = (0 : Int))) = false) → ((IntKind.i64.wrap (wo S C K m r (wK S C m) - (500 : Int)) = wo S C K m r (wK S C m - (500 : Int))) ∧ (((0 : Int) = tabE S C K m r) ∧ (True)))))) := by kernel_rfl
def sh_kcut : List SV → Option ((List SV) × (List SV) × (List SV) × Int × Int)
  | [.agg [S', C', K', .int .i64 m, .int .i64 r]] => (match slOf [.sl [.int .i64, .int .i64, .int .i64]] S' with | some S => (match slOf [.str, .int .i64, .sl [.int .i64, .int .i64, .int .i64], .int .i64, .int .i64, .int .i64] C' with | some C => (match slOf [.str, .int .i64, .int .i64, .int .i64] K' with | some K => some (S, C, K, m, r) | _ => none) | _ => none) | _ => none)
  | _ => none
def em_kcut : (List SV) × (List SV) × (List SV) × Int × Int → List SV := fun (S, C, K, m, r) => [.agg [.sl [.sl [.int .i64, .int .i64, .int .i64]] S, .sl [.str, .int .i64, .sl [.int .i64, .int .i64, .int .i64], .int .i64, .int .i64, .int .i64] C, .sl [.str, .int .i64, .int .i64, .int .i64] K, .int .i64 m, .int .i64 r]]
theorem sh_kcut_le : ∀ us a, sh_kcut us = some a → leL us (em_kcut a) := by
  intro us a h
  unfold sh_kcut at h
  split at h
  · split at h
    · split at h
      · split at h
        · cases h; exact (.cons (.agg (.cons (.sl (by assumption)) (.cons (.sl (by assumption)) (.cons (.sl (by assumption)) (.cons (.refl _) (.cons (.refl _) .nil)))))) .nil)
        · cases h
      · cases h
    · cases h
  · cases h
def kcutC : Con := conOf sh_kcut (fun (S, C, K, m, r) => some (Ob (wfL [.sl bandK] S ∧ wfL ctK C ∧ wfL kdK K))) (fun (S, C, K, m, r) => .tup [.agg [.sl [.sl bandK] (sel (cutB S C K m r) S), .sl ctK (sel (cutB S C K m r) C), .sl kdK (sel (cutB S C K m r) K), .int .i64 (selI (cutB S C K m r) (cutM S C m)), .int .i64 (selI (cutB S C K m r) r)], .bool (cutB S C K m r)])
set_option maxRecDepth 100000 in
theorem vc_kcut (S : List SV) (C : List SV) (K : List SV) (m : Int) (r : Int) : (wpF ⟨31, tyT, [(9, tcheckC), (12, tcloneC), (7, kroomC), (11, kcheckC)], false, 0, [], false⟩ (noAnn) [] Tryd.f6 (em_kcut (S, C, K, m, r)) (.tup [.agg [.sl [.sl bandK] (sel (cutB S C K m r) S), .sl ctK (sel (cutB S C K m r) C), .sl kdK (sel (cutB S C K m r) K), .int .i64 (selI (cutB S C K m r) (cutM S C m)), .int .i64 (selI (cutB S C K m r) r)], .bool (cutB S C K m r)])) = (((((!decide (tabE S C K m r = (0 : Int))) = true) → ((sel (cutB S C K m r) S = []) ∧ ((sel (cutB S C K m r) C = []) ∧ ((sel (cutB S C K m r) K = []) ∧ (((0 : Int) = selI (cutB S C K m r) (cutM S C m)) ∧ (((0 : Int) = selI (cutB S C K m r) r) ∧ ((cutB S C K m r = false) ∧ (True)))))))) ∧ (((!decide (tabE S C K m r = (0 : Int))) = false) → (Ob ((tclP S C K)) ∧ (((decide (wo S C K m r (wK S C m - (500 : Int)) < (0 : Int)) = true) → ((((!decide (kcE S C K (maxV (0 : Int) (IntKind.i64.wrap (m + wo S C K m r (wK S C m - (500 : Int))))) r = (0 : Int))) = true) → ((sel (cutB S C K m r) S = []) ∧ ((sel (cutB S C K m r) C = []) ∧ ((sel (cutB S C K m r) K = []) ∧ (((0 : Int) = selI (cutB S C K m r) (cutM S C m)) ∧ (((0 : Int) = selI (cutB S C K m r) r) ∧ ((cutB S C K m r = false) ∧ (True)))))))) ∧ (((!decide (kcE S C K (maxV (0 : Int) (IntKind.i64.wrap (m + wo S C K m r (wK S C m - (500 : Int))))) r = (0 : Int))) = false) → ((S = sel (cutB S C K m r) S) ∧ ((C = sel (cutB S C K m r) C) ∧ ((K = sel (cutB S C K m r) K) ∧ ((maxV (0 : Int) (IntKind.i64.wrap (m + wo S C K m r (wK S C m - (500 : Int)))) = selI (cutB S C K m r) (cutM S C m)) ∧ ((r = selI (cutB S C K m r) r) ∧ ((cutB S C K m r = true) ∧ (True)))))))))) ∧ ((decide (wo S C K m r (wK S C m - (500 : Int)) < (0 : Int)) = false) → ((((!decide (kcE S C K m r = (0 : Int))) = true) → ((sel (cutB S C K m r) S = []) ∧ ((sel (cutB S C K m r) C = []) ∧ ((sel (cutB S C K m r) K = []) ∧ (((0 : Int) = selI (cutB S C K m r) (cutM S C m)) ∧ (((0 : Int) = selI (cutB S C K m r) r) ∧ ((cutB S C K m r = false) ∧ (True)))))))) ∧ (((!decide (kcE S C K m r = (0 : Int))) = false) → ((S = sel (cutB S C K m r) S) ∧ ((C = sel (cutB S C K m r) C) ∧ ((K = sel (cutB S C K m r) K) ∧ ((m = selI (cutB S C K m r) (cutM S C m)) ∧ ((r = selI (cutB S C K m r) r) ∧ ((cutB S C K m r = true) ∧ (True))))))))))))))) := by kernel_rfl
theorem clCt_known : Known Tryd.prog 27 clCtC := by
  refine known1 (nt := 8) (An := fun l => noAnn) (labs := []) (lit := false) (em := em_clCt) sh_clCt_le (by kernel_rfl) mixedT tyT_ok .nil Tryd.func27 (by kernel_rfl) (fun a => by kernel_rfl) (fun a => by rfl) (fun l ha => ?_)
  replace ha : l.length ≤ 1000 := ha.out
  refine ⟨_, vc_clCt l, ?_⟩
  simp only [Int.reduceLE, Int.reduceLT, Int.reduceEq, Int.reduceNe, Nat.reduceLeDiff, Nat.reduceEqDiff, beq_eq_false_iff_ne, beq_iff_eq, decide_eq_decide, ne_eq, eq_self, true_and, and_true, and_self, and_false, false_and, Bool.not_true, Bool.not_false, Bool.false_eq_true, Bool.true_eq_false, false_implies, true_implies, implies_true, imp_false, not_true, not_false_eq_true, decide_eq_true_eq, decide_eq_false_iff_not, Bool.not_eq_true', Bool.not_eq_false', Bool.and_eq_true, Classical.not_not, decide_true, decide_false, Bool.and_true, Bool.true_and, if_true, if_false, Ob_iff]
  repeat' first | exact trivial | with_reducible rfl | apply And.intro | apply Ob.mk | intro _
  all_goals first
    | omega
    | exact List.nil_append _

theorem clKd_known : Known Tryd.prog 28 clKdC := by
  refine known1 (nt := 8) (An := fun l => noAnn) (labs := []) (lit := false) (em := em_clKd) sh_clKd_le (by kernel_rfl) mixedT tyT_ok .nil Tryd.func28 (by kernel_rfl) (fun a => by kernel_rfl) (fun a => by rfl) (fun l ha => ?_)
  replace ha : l.length ≤ 1000 := ha.out
  refine ⟨_, vc_clKd l, ?_⟩
  simp only [Int.reduceLE, Int.reduceLT, Int.reduceEq, Int.reduceNe, Nat.reduceLeDiff, Nat.reduceEqDiff, beq_eq_false_iff_ne, beq_iff_eq, decide_eq_decide, ne_eq, eq_self, true_and, and_true, and_self, and_false, false_and, Bool.not_true, Bool.not_false, Bool.false_eq_true, Bool.true_eq_false, false_implies, true_implies, implies_true, imp_false, not_true, not_false_eq_true, decide_eq_true_eq, decide_eq_false_iff_not, Bool.not_eq_true', Bool.not_eq_false', Bool.and_eq_true, Classical.not_not, decide_true, decide_false, Bool.and_true, Bool.true_and, if_true, if_false, Ob_iff]
  repeat' first | exact trivial | with_reducible rfl | apply And.intro | apply Ob.mk | intro _
  all_goals first
    | omega
    | exact List.nil_append _

theorem clBd_known : Known Tryd.prog 29 clBdC := by
  refine known1 (nt := 8) (An := fun l => noAnn) (labs := []) (lit := false) (em := em_clBd) sh_clBd_le (by kernel_rfl) mixedT tyT_ok .nil Tryd.func29 (by kernel_rfl) (fun a => by kernel_rfl) (fun a => by rfl) (fun l ha => ?_)
  replace ha : l.length ≤ 1000 := ha.out
  refine ⟨_, vc_clBd l, ?_⟩
  simp only [Int.reduceLE, Int.reduceLT, Int.reduceEq, Int.reduceNe, Nat.reduceLeDiff, Nat.reduceEqDiff, beq_eq_false_iff_ne, beq_iff_eq, decide_eq_decide, ne_eq, eq_self, true_and, and_true, and_self, and_false, false_and, Bool.not_true, Bool.not_false, Bool.false_eq_true, Bool.true_eq_false, false_implies, true_implies, implies_true, imp_false, not_true, not_false_eq_true, decide_eq_true_eq, decide_eq_false_iff_not, Bool.not_eq_true', Bool.not_eq_false', Bool.and_eq_true, Classical.not_not, decide_true, decide_false, Bool.and_true, Bool.true_and, if_true, if_false, Ob_iff]
  repeat' first | exact trivial | with_reducible rfl | apply And.intro | apply Ob.mk | intro _
  all_goals first
    | omega
    | exact List.nil_append _

theorem ext_getD {l k : List SV} (h : l.length = k.length) (h2 : ∀ i, i < l.length → l.getD i .any = k.getD i .any) : l = k := by
  apply List.ext_getElem h
  intro i a b
  have := h2 i a
  rw [List.getD_eq_getElem?_getD, List.getD_eq_getElem?_getD, List.getElem?_eq_getElem a, List.getElem?_eq_getElem b] at this
  exact this
theorem set_same (l : List SV) (i : Nat) : l.set i (l.getD i .any) = l := by
  refine ext_getD (by rw [List.length_set]) (fun k hk => ?_)
  rw [List.length_set] at hk
  rw [List.getD_eq_getElem?_getD, List.getElem?_set]
  split
  · rename_i h
    subst h
    rw [if_pos hk]; rfl
  · rw [← List.getD_eq_getElem?_getD]
theorem wf_getE {ks : List CK} {L : List (List SV)} {i : Nat} (hi : i < (L.map elOf).length) (h2 : ∀ us, us ∈ L → wfKs ks us) : wfKs ks (L.getD i []) ∧ (L.map elOf).getD i .any = elOf (L.getD i []) := by
  rw [List.length_map] at hi
  have hm : L.getD i [] ∈ L := by rw [List.getD_eq_getElem?_getD, List.getElem?_eq_getElem hi]; exact List.getElem_mem hi
  exact ⟨h2 _ hm, getD_map elOf L i [] _ hi⟩
theorem wfS_get {S : List SV} (h : wfL [.sl bandK] S) {i : Nat} (hi : i < S.length) : S.getD i .any = .sl bandK (sch S i) := by
  obtain ⟨L, rfl, _, h2⟩ := h
  obtain ⟨h3, e⟩ := wf_getE hi h2
  obtain ⟨v, vs, hv, h4, h5⟩ := wfKs_cons h3
  obtain ⟨l, rfl, _⟩ := wfL_of h4
  rw [wfKs_nil h5] at hv
  rw [hv] at e
  unfold sch elCell
  rw [e]; rfl
theorem wfC_get {C : List SV} (h : wfL ctK C) {i : Nat} (hi : i < C.length) : C.getD i .any = .agg (ctCells C i) := by
  obtain ⟨L, rfl, _, h2⟩ := h
  obtain ⟨h3, e⟩ := wf_getE hi h2
  obtain ⟨v0, vs0, hv, a0, b0⟩ := wfKs_cons h3
  obtain ⟨v1, vs1, rfl, a1, b1⟩ := wfKs_cons b0
  obtain ⟨v2, vs2, rfl, a2, b2⟩ := wfKs_cons b1
  obtain ⟨v3, vs3, rfl, a3, b3⟩ := wfKs_cons b2
  obtain ⟨v4, vs4, rfl, a4, b4⟩ := wfKs_cons b3
  obtain ⟨v5, vs5, rfl, a5, b5⟩ := wfKs_cons b4
  obtain ⟨x0, rfl, _⟩ := wfK_str a0
  obtain ⟨x1, rfl, _⟩ := wfK_int a1
  obtain ⟨x2, rfl, _⟩ := wfL_of a2
  obtain ⟨x3, rfl, _⟩ := wfK_int a3
  obtain ⟨x4, rfl, _⟩ := wfK_int a4
  obtain ⟨x5, rfl, _⟩ := wfK_int a5
  rw [wfKs_nil b5] at hv
  rw [hv] at e
  unfold ctCells enm bd ctB elCell
  rw [e]; rfl
theorem clS_len (S : List SV) : ∀ n, (clS S n).length = n
  | 0 => rfl
  | n + 1 => by rw [clS, List.length_append, clS_len S n]; rfl
theorem clS_get (S : List SV) : ∀ n k, k < n → (clS S n).getD k .any = .sl bandK (sch S k)
  | 0, k, h => absurd h (Nat.not_lt_zero _)
  | n + 1, k, h => by
    rw [clS]
    rcases Nat.lt_or_ge k n with h1 | h1
    · rw [List.getD_eq_getElem?_getD, List.getElem?_append_left (by rw [clS_len]; exact h1), ← List.getD_eq_getElem?_getD, clS_get S n k h1]
    · rw [show k = n by omega, List.getD_eq_getElem?_getD, List.getElem?_append_right (by rw [clS_len]; omega), clS_len]; simp
theorem clS_all {S : List SV} (h : wfL [.sl bandK] S) : clS S S.length = S :=
  ext_getD (clS_len S _) (fun k hk => by rw [clS_len] at hk; rw [clS_get S _ k hk, wfS_get h hk])
theorem tclone_known : Known Tryd.prog 12 tcloneC := by
  refine known1 (nt := 52) (An := fun (S, C, K, m, r) => (tcF_an S C K m r)) (labs := []) (lit := false) (em := em_tclone) sh_tclone_le (by kernel_rfl) mixedT tyT_ok (.cons clCt_known (.cons clKd_known (.cons clBd_known .nil))) Tryd.func12 (by kernel_rfl) (fun a => by obtain ⟨S, C, K, m, r⟩ := a; kernel_rfl) (fun a => by obtain ⟨S, C, K, m, r⟩ := a; rfl) (fun a ha => ?_)
  obtain ⟨S, C, K, m, r⟩ := a
  replace ha : tclP S C K := ha.out
  refine ⟨_, vc_tclone S C K m r, ?_⟩
  simp only [Int.reduceLE, Int.reduceLT, Int.reduceEq, Int.reduceNe, Nat.reduceLeDiff, Nat.reduceEqDiff, beq_eq_false_iff_ne, beq_iff_eq, decide_eq_decide, ne_eq, eq_self, true_and, and_true, and_self, and_false, false_and, Bool.not_true, Bool.not_false, Bool.false_eq_true, Bool.true_eq_false, false_implies, true_implies, implies_true, imp_false, not_true, not_false_eq_true, decide_eq_true_eq, decide_eq_false_iff_not, Bool.not_eq_true', Bool.not_eq_false', Bool.and_eq_true, Classical.not_not, decide_true, decide_false, Bool.and_true, Bool.true_and, if_true, if_false, Ob_iff]
  have ha' := ha
  obtain ⟨⟨wS, wC, wK_⟩, hl, hS, hC⟩ := ha'
  refine ⟨by omega, by omega, ⟨0, rfl, rfl, by omega, ha⟩, fun i ⟨i1, _⟩ => ⟨fun h1 => ?_, fun h1 => ⟨⟨0, rfl, by rw [show i = S.length by omega]; exact clS_all wS, by omega, ha⟩, fun j ⟨j1, _⟩ h2 => ?_⟩⟩⟩
  · have h3 := hS i (by omega)
    have h4 := clS_len S i
    exact ⟨by omega, by show (sch S i).length ≤ 1000; omega, by omega, i + 1, by rw [wrapI (by omega)]; rfl, rfl, ⟨by omega, ha⟩, by omega⟩
  · have h3 := hC j (by omega)
    refine ⟨by omega, by omega, by omega, by show (ctB C j).length ≤ 1000; omega, by omega, by omega, by omega, j + 1, by rw [wrapI (by omega)]; rfl, ?_, ⟨by omega, ha⟩, by omega⟩
    have e := wfC_get wC (i := j) (by omega)
    have e2 : C.set j (C.getD j .any) = C := set_same C j
    rw [e] at e2 ⊢
    exact e2

theorem eqBd_known : Known Tryd.prog 31 eqBdC := by
  refine known1 (nt := 26) (An := fun (a, b) => (eqx_an bandK a b)) (labs := []) (lit := false) (em := em_eqBd) sh_eqBd_le (by kernel_rfl) mixedT tyT_ok .nil Tryd.func31 (by kernel_rfl) (fun a => by obtain ⟨a, b⟩ := a; kernel_rfl) (fun a => by obtain ⟨a, b⟩ := a; rfl) (fun a ha => ?_)
  obtain ⟨a, b⟩ := a
  replace ha : a = b ∧ a.length ≤ 1000 := ha.out
  refine ⟨_, vc_eqBd a b, ?_⟩
  simp only [Int.reduceLE, Int.reduceLT, Int.reduceEq, Int.reduceNe, Nat.reduceLeDiff, Nat.reduceEqDiff, beq_eq_false_iff_ne, beq_iff_eq, decide_eq_decide, ne_eq, eq_self, true_and, and_true, and_self, and_false, false_and, Bool.not_true, Bool.not_false, Bool.false_eq_true, Bool.true_eq_false, false_implies, true_implies, implies_true, imp_false, not_true, not_false_eq_true, decide_eq_true_eq, decide_eq_false_iff_not, Bool.not_eq_true', Bool.not_eq_false', Bool.and_eq_true, Classical.not_not, decide_true, decide_false, Bool.and_true, Bool.true_and, if_true, if_false, Ob_iff]
  obtain ⟨rfl, hl⟩ := ha
  exact ⟨rfl, fun _ => ⟨⟨0, rfl, by omega, rfl, hl⟩, fun i ⟨i1, _⟩ h => ⟨by omega, by omega, by simp, fun _ => ⟨i + 1, by rw [wrapI (by omega)]; rfl, ⟨by omega, rfl, hl⟩, by omega⟩⟩⟩⟩

theorem eqKd_known : Known Tryd.prog 32 eqKdC := by
  refine known1 (nt := 26) (An := fun (a, b) => (eqx_an kdK a b)) (labs := []) (lit := false) (em := em_eqKd) sh_eqKd_le (by kernel_rfl) mixedT tyT_ok .nil Tryd.func32 (by kernel_rfl) (fun a => by obtain ⟨a, b⟩ := a; kernel_rfl) (fun a => by obtain ⟨a, b⟩ := a; rfl) (fun a ha => ?_)
  obtain ⟨a, b⟩ := a
  replace ha : a = b ∧ a.length ≤ 1000 := ha.out
  refine ⟨_, vc_eqKd a b, ?_⟩
  simp only [Int.reduceLE, Int.reduceLT, Int.reduceEq, Int.reduceNe, Nat.reduceLeDiff, Nat.reduceEqDiff, beq_eq_false_iff_ne, beq_iff_eq, decide_eq_decide, ne_eq, eq_self, true_and, and_true, and_self, and_false, false_and, Bool.not_true, Bool.not_false, Bool.false_eq_true, Bool.true_eq_false, false_implies, true_implies, implies_true, imp_false, not_true, not_false_eq_true, decide_eq_true_eq, decide_eq_false_iff_not, Bool.not_eq_true', Bool.not_eq_false', Bool.and_eq_true, Classical.not_not, decide_true, decide_false, Bool.and_true, Bool.true_and, if_true, if_false, Ob_iff]
  obtain ⟨rfl, hl⟩ := ha
  exact ⟨rfl, fun _ => ⟨⟨0, rfl, by omega, rfl, hl⟩, fun i ⟨i1, _⟩ h => ⟨by omega, by omega, by simp, fun _ => ⟨i + 1, by rw [wrapI (by omega)]; rfl, ⟨by omega, rfl, hl⟩, by omega⟩⟩⟩⟩

theorem like_known : Known Tryd.prog 30 likeC := by
  refine known1 (nt := 45) (An := fun (n, x, a, p, y, r, n', x', a', p', y', r') => noAnn) (labs := []) (lit := false) (em := em_like) sh_like_le (by kernel_rfl) mixedT tyT_ok (.cons eqBd_known .nil) Tryd.func30 (by kernel_rfl) (fun a => by obtain ⟨n, x, a, p, y, r, n', x', a', p', y', r'⟩ := a; kernel_rfl) (fun a => by obtain ⟨n, x, a, p, y, r, n', x', a', p', y', r'⟩ := a; rfl) (fun a ha => ?_)
  obtain ⟨n, x, a, p, y, r, n', x', a', p', y', r'⟩ := a
  replace ha : (n = n' ∧ x = x' ∧ a = a' ∧ p = p' ∧ y = y' ∧ r = r') ∧ a.length ≤ 1000 := ha.out
  refine ⟨_, vc_like n x a p y r n' x' a' p' y' r', ?_⟩
  simp only [Int.reduceLE, Int.reduceLT, Int.reduceEq, Int.reduceNe, Nat.reduceLeDiff, Nat.reduceEqDiff, beq_eq_false_iff_ne, beq_iff_eq, decide_eq_decide, ne_eq, eq_self, true_and, and_true, and_self, and_false, false_and, Bool.not_true, Bool.not_false, Bool.false_eq_true, Bool.true_eq_false, false_implies, true_implies, implies_true, imp_false, not_true, not_false_eq_true, decide_eq_true_eq, decide_eq_false_iff_not, Bool.not_eq_true', Bool.not_eq_false', Bool.and_eq_true, Classical.not_not, decide_true, decide_false, Bool.and_true, Bool.true_and, if_true, if_false, Ob_iff]
  obtain ⟨⟨rfl, rfl, rfl, rfl, rfl, rfl⟩, hl⟩ := ha
  exact ⟨fun _ => ⟨fun _ => ⟨fun _ => ⟨fun _ => ⟨fun _ => ⟨rfl, hl⟩, rfl⟩, rfl⟩, rfl⟩, rfl⟩, rfl⟩

theorem alike_known : Known Tryd.prog 35 alikeC := by
  refine known1 (nt := 8) (An := fun (a, b) => noAnn) (labs := []) (lit := false) (em := em_alike) sh_alike_le (by kernel_rfl) mixedT tyT_ok (.cons eqBd_known .nil) Tryd.func35 (by kernel_rfl) (fun a => by obtain ⟨a, b⟩ := a; kernel_rfl) (fun a => by obtain ⟨a, b⟩ := a; rfl) (fun a ha => ?_)
  obtain ⟨a, b⟩ := a
  replace ha : a = b ∧ a.length ≤ 1000 := ha.out
  refine ⟨_, vc_alike a b, ?_⟩
  simp only [Int.reduceLE, Int.reduceLT, Int.reduceEq, Int.reduceNe, Nat.reduceLeDiff, Nat.reduceEqDiff, beq_eq_false_iff_ne, beq_iff_eq, decide_eq_decide, ne_eq, eq_self, true_and, and_true, and_self, and_false, false_and, Bool.not_true, Bool.not_false, Bool.false_eq_true, Bool.true_eq_false, false_implies, true_implies, implies_true, imp_false, not_true, not_false_eq_true, decide_eq_true_eq, decide_eq_false_iff_not, Bool.not_eq_true', Bool.not_eq_false', Bool.and_eq_true, Classical.not_not, decide_true, decide_false, Bool.and_true, Bool.true_and, if_true, if_false, Ob_iff]
  exact ha

theorem eqfC_known : Known Tryd.prog 33 eqfCC := by
  refine known1 (nt := 32) (An := fun (a, b) => (eqf_an ctK a b 30 (∀ i, i < a.length → (ctB a i).length ≤ 1000))) (labs := []) (lit := false) (em := em_eqfC) sh_eqfC_le (by kernel_rfl) mixedT tyT_ok (.cons like_known .nil) Tryd.func33 (by kernel_rfl) (fun a => by obtain ⟨a, b⟩ := a; kernel_rfl) (fun a => by obtain ⟨a, b⟩ := a; rfl) (fun a ha => ?_)
  obtain ⟨a, b⟩ := a
  replace ha : a = b ∧ a.length ≤ 1000 ∧ ∀ i, i < a.length → (ctB a i).length ≤ 1000 := ha.out
  refine ⟨_, vc_eqfC a b, ?_⟩
  simp only [Int.reduceLE, Int.reduceLT, Int.reduceEq, Int.reduceNe, Nat.reduceLeDiff, Nat.reduceEqDiff, beq_eq_false_iff_ne, beq_iff_eq, decide_eq_decide, ne_eq, eq_self, true_and, and_true, and_self, and_false, false_and, Bool.not_true, Bool.not_false, Bool.false_eq_true, Bool.true_eq_false, false_implies, true_implies, implies_true, imp_false, not_true, not_false_eq_true, decide_eq_true_eq, decide_eq_false_iff_not, Bool.not_eq_true', Bool.not_eq_false', Bool.and_eq_true, Classical.not_not, decide_true, decide_false, Bool.and_true, Bool.true_and, if_true, if_false, Ob_iff]
  obtain ⟨rfl, hl, hc⟩ := ha
  exact ⟨rfl, fun _ => ⟨⟨0, rfl, by omega, rfl, hl, hc⟩, fun i ⟨i1, _⟩ h => ⟨by omega, by omega, ⟨⟨rfl, rfl, rfl, rfl, rfl, rfl⟩, hc i (by omega)⟩, i + 1, by rw [wrapI (by omega)]; rfl, ⟨by omega, rfl, hl, hc⟩, by omega⟩⟩⟩

theorem eqfS_known : Known Tryd.prog 34 eqfSC := by
  refine known1 (nt := 32) (An := fun (a, b) => (eqf_an [.sl bandK] a b 35 (∀ i, i < a.length → (sch a i).length ≤ 1000))) (labs := []) (lit := false) (em := em_eqfS) sh_eqfS_le (by kernel_rfl) mixedT tyT_ok (.cons alike_known .nil) Tryd.func34 (by kernel_rfl) (fun a => by obtain ⟨a, b⟩ := a; kernel_rfl) (fun a => by obtain ⟨a, b⟩ := a; rfl) (fun a ha => ?_)
  obtain ⟨a, b⟩ := a
  replace ha : a = b ∧ a.length ≤ 1000 ∧ ∀ i, i < a.length → (sch a i).length ≤ 1000 := ha.out
  refine ⟨_, vc_eqfS a b, ?_⟩
  simp only [Int.reduceLE, Int.reduceLT, Int.reduceEq, Int.reduceNe, Nat.reduceLeDiff, Nat.reduceEqDiff, beq_eq_false_iff_ne, beq_iff_eq, decide_eq_decide, ne_eq, eq_self, true_and, and_true, and_self, and_false, false_and, Bool.not_true, Bool.not_false, Bool.false_eq_true, Bool.true_eq_false, false_implies, true_implies, implies_true, imp_false, not_true, not_false_eq_true, decide_eq_true_eq, decide_eq_false_iff_not, Bool.not_eq_true', Bool.not_eq_false', Bool.and_eq_true, Classical.not_not, decide_true, decide_false, Bool.and_true, Bool.true_and, if_true, if_false, Ob_iff]
  obtain ⟨rfl, hl, hc⟩ := ha
  exact ⟨rfl, fun _ => ⟨⟨0, rfl, by omega, rfl, hl, hc⟩, fun i ⟨i1, _⟩ h => ⟨by omega, by omega, ⟨rfl, hc i (by omega)⟩, i + 1, by rw [wrapI (by omega)]; rfl, ⟨by omega, rfl, hl, hc⟩, by omega⟩⟩⟩

theorem tsame_known : Known Tryd.prog 13 tsameC := by
  refine known1 (nt := 40) (An := fun (S, C, K, m, r, S', C', K', m', r') => noAnn) (labs := []) (lit := false) (em := em_tsame) sh_tsame_le (by kernel_rfl) mixedT tyT_ok (.cons eqKd_known (.cons eqfC_known (.cons eqfS_known .nil))) Tryd.func13 (by kernel_rfl) (fun a => by obtain ⟨S, C, K, m, r, S', C', K', m', r'⟩ := a; kernel_rfl) (fun a => by obtain ⟨S, C, K, m, r, S', C', K', m', r'⟩ := a; rfl) (fun a ha => ?_)
  obtain ⟨S, C, K, m, r, S', C', K', m', r'⟩ := a
  replace ha : (S = S' ∧ C = C' ∧ K = K') ∧ tclP S C K := ha.out
  refine ⟨_, vc_tsame S C K m r S' C' K' m' r', ?_⟩
  simp only [Int.reduceLE, Int.reduceLT, Int.reduceEq, Int.reduceNe, Nat.reduceLeDiff, Nat.reduceEqDiff, beq_eq_false_iff_ne, beq_iff_eq, decide_eq_decide, ne_eq, eq_self, true_and, and_true, and_self, and_false, false_and, Bool.not_true, Bool.not_false, Bool.false_eq_true, Bool.true_eq_false, false_implies, true_implies, implies_true, imp_false, not_true, not_false_eq_true, decide_eq_true_eq, decide_eq_false_iff_not, Bool.not_eq_true', Bool.not_eq_false', Bool.and_eq_true, Classical.not_not, decide_true, decide_false, Bool.and_true, Bool.true_and, if_true, if_false, Ob_iff]
  obtain ⟨⟨rfl, rfl, rfl⟩, hw, hl, hS, hC⟩ := ha
  exact ⟨fun h => by simp [h], fun h => ⟨fun g => by simp [g], fun g => ⟨⟨rfl, by omega⟩, ⟨rfl, by omega, fun i hi => by have := hC i hi; omega⟩, ⟨rfl, by omega, fun i hi => by have := hS i hi; omega⟩, by simp [h, g]⟩⟩⟩

theorem kroom_known : Known Tryd.prog 7 kroomC := by
  refine known1 (nt := 17) (An := fun (S, C, K, m, r) => noAnn) (labs := []) (lit := false) (em := em_kroom) sh_kroom_le (by kernel_rfl) mixedT tyT_ok (.cons kworst_known .nil) Tryd.func7 (by kernel_rfl) (fun a => by obtain ⟨S, C, K, m, r⟩ := a; kernel_rfl) (fun a => by obtain ⟨S, C, K, m, r⟩ := a; rfl) (fun a ha => ?_)
  obtain ⟨S, C, K, m, r⟩ := a
  refine ⟨_, vc_kroom S C K m r, ?_⟩
  simp only [Int.reduceLE, Int.reduceLT, Int.reduceEq, Int.reduceNe, Nat.reduceLeDiff, Nat.reduceEqDiff, beq_eq_false_iff_ne, beq_iff_eq, decide_eq_decide, ne_eq, eq_self, true_and, and_true, and_self, and_false, false_and, Bool.not_true, Bool.not_false, Bool.false_eq_true, Bool.true_eq_false, false_implies, true_implies, implies_true, imp_false, not_true, not_false_eq_true, decide_eq_true_eq, decide_eq_false_iff_not, Bool.not_eq_true', Bool.not_eq_false', Bool.and_eq_true, Classical.not_not, decide_true, decide_false, Bool.and_true, Bool.true_and, if_true, if_false, Ob_iff]
  refine ⟨fun h => by unfold wo; rw [if_neg h], fun h => ?_⟩
  have := wK_in h
  unfold wo
  rw [if_pos h, if_pos h, wrapI (by omega)]
  exact ⟨rfl, h.symm⟩

theorem tcl_of {S C K : List SV} {m r : Int} (hw : wfL [.sl bandK] S ∧ wfL ctK C ∧ wfL kdK K) (h : tabE S C K m r = 0) : tclP S C K := by
  obtain ⟨hm, s1, s2, c1, k1, hS, hC⟩ := tab_in h
  exact ⟨hw, ⟨by omega, by omega, by omega⟩, fun i hi => by have := (check_zero (hS i hi)).2.1; omega, fun i hi => by have := (check_zero (hC i hi)).2.1; omega⟩
theorem kcut_known : Known Tryd.prog 6 kcutC := by
  refine known1 (nt := 31) (An := fun (S, C, K, m, r) => noAnn) (labs := []) (lit := false) (em := em_kcut) sh_kcut_le (by kernel_rfl) mixedT tyT_ok (.cons tcheck_known (.cons tclone_known (.cons kroom_known (.cons kcheck_known .nil)))) Tryd.func6 (by kernel_rfl) (fun a => by obtain ⟨S, C, K, m, r⟩ := a; kernel_rfl) (fun a => by obtain ⟨S, C, K, m, r⟩ := a; rfl) (fun a ha => ?_)
  obtain ⟨S, C, K, m, r⟩ := a
  replace ha : wfL [.sl bandK] S ∧ wfL ctK C ∧ wfL kdK K := ha.out
  refine ⟨_, vc_kcut S C K m r, ?_⟩
  simp only [Int.reduceLE, Int.reduceLT, Int.reduceEq, Int.reduceNe, Nat.reduceLeDiff, Nat.reduceEqDiff, beq_eq_false_iff_ne, beq_iff_eq, decide_eq_decide, ne_eq, eq_self, true_and, and_true, and_self, and_false, false_and, Bool.not_true, Bool.not_false, Bool.false_eq_true, Bool.true_eq_false, false_implies, true_implies, implies_true, imp_false, not_true, not_false_eq_true, decide_eq_true_eq, decide_eq_false_iff_not, Bool.not_eq_true', Bool.not_eq_false', Bool.and_eq_true, Classical.not_not, decide_true, decide_false, Bool.and_true, Bool.true_and, if_true, if_false, Ob_iff]
  refine ⟨fun h => ?_, fun h => ?_⟩
  · have e : cutB S C K m r = false := by unfold cutB; simp [h]
    rw [e]; exact ⟨rfl, rfl, rfl, rfl, rfl, rfl⟩
  · obtain ⟨hm, _⟩ := tab_in h
    have hw := wK_in h
    have e1 : wo S C K m r (wK S C m - 500) = wK S C m - 500 := by unfold wo; rw [if_pos h]
    rw [e1, wrapI (by omega)]
    refine ⟨tcl_of ha h, fun h1 => ?_, fun h1 => ?_⟩
    · have ec : cutM S C m = maxV 0 (m + (wK S C m - 500)) := by unfold cutM; rw [if_pos h1]
      refine ⟨fun h2 => ?_, fun h2 => ?_⟩
      · have e : cutB S C K m r = false := by unfold cutB; rw [ec]; simp [h2]
        rw [e]; exact ⟨rfl, rfl, rfl, rfl, rfl, rfl⟩
      · have e : cutB S C K m r = true := by unfold cutB; rw [ec, h, h2]; rfl
        rw [e, ec]; exact ⟨rfl, rfl, rfl, rfl, rfl, rfl⟩
    · have ec : cutM S C m = m := by unfold cutM; rw [if_neg h1]
      refine ⟨fun h2 => ?_, fun h2 => ?_⟩
      · have e : cutB S C K m r = false := by unfold cutB; rw [ec]; simp [h2]
        rw [e]; exact ⟨rfl, rfl, rfl, rfl, rfl, rfl⟩
      · have e : cutB S C K m r = true := by unfold cutB; rw [ec, h, h2]; rfl
        rw [e, ec]; exact ⟨rfl, rfl, rfl, rfl, rfl, rfl⟩

end Go.Rx
