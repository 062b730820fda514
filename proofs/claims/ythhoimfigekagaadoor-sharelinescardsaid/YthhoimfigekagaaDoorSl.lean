/- Contributions as lines. -/
import Derived.Test.YthhoimfigekagaaDoorSh2
import Derived.Test.YthhoimfigekagaaDoorNm
import Derived.Test.YthhoimfigekagaaDoorMon7
namespace Go.Rx
open Go.Proofs
set_option linter.unusedSimpArgs false
set_option linter.unusedVariables false

def conK : List CK := [.str, .int .i64, .sl [.int .i64, .int .i64, .int .i64], .int .i64, .int .i64, .int .i64]
def kinK : List CK := [.str, .int .i64, .int .i64, .int .i64]
def nmA (C : List SV) (i : Nat) : List UInt8 := (elCell C i 0).toStr
def lnW (C R : List SV) (i : Nat) : List UInt8 := nmA C i ++ [32] ++ textM (cl R i 0) ++ [32] ++ textM (cl R i 1)
def lnM (C R : List SV) (n : Nat) : List SV := (List.range n).map fun i => .str (lnW C R i)
def lnR (C R : List SV) : List SV := if R.length ≠ C.length then [] else lnM C R R.length
def lnOK (C R : List SV) : Prop := R.length ≤ 1000 ∧ (∀ i, i < C.length → (nmA C i).length ≤ maxStr) ∧ ∀ i, i < R.length → in64 (cl R i 0) ∧ in64 (cl R i 1)
def ln_an (S C K : List SV) (m r : Int) (R : List SV) : Nat → Option Ann
  | 0 => some ⟨Nat, fun i => ⟨[(2, .ptr 2 0), (5, .osl 39 0), (14, .sl shK R), (15, .int .i64 R.length), (16, .int .i64 i)], [(2, .box 51 [.sl [.sl [.int .i64, .int .i64, .int .i64]] S, .sl conK C, .sl kinK K, .int .i64 m, .int .i64 r]), (39, .row 0 9 [.str] (lnM C R i))]⟩, fun i => i ≤ R.length ∧ R.length = C.length, fun i => R.length - i, [2, 5, 14, 15, 16], [2, 39], [(5, 39, 9, [.str])], fun _ _ => none⟩
  | _ => none
def sll_an (C R : List SV) : Nat → Option Ann
  | 0 => some ⟨Nat, fun i => ⟨[(1, .sl shK R), (5, .sl [.str] (lnR C R)), (48, .sl conK C), (49, .int .i64 C.length), (50, .int .i64 i)], []⟩, fun i => i ≤ C.length ∧ R.length = C.length ∧ R.length ≤ 30 ∧ rgB R R.length = true, fun i => C.length - i, [1, 5, 48, 49, 50], [], [], fun _ _ => none⟩
  | _ => none

def sh_slines : List SV → Option ((List SV) × (List SV) × (List SV) × Int × Int × (List SV))
  | [.agg [S', C', K', .int .i64 m, .int .i64 r], R'] => (match slOf [.sl [.int .i64, .int .i64, .int .i64]] S' with | some S => (match slOf [.str, .int .i64, .sl [.int .i64, .int .i64, .int .i64], .int .i64, .int .i64, .int .i64] C' with | some C => (match slOf [.str, .int .i64, .int .i64, .int .i64] K' with | some K => (match slOf [.int .i64, .int .i64] R' with | some R => some (S, C, K, m, r, R) | _ => none) | _ => none) | _ => none) | _ => none)
  | _ => none
def em_slines : (List SV) × (List SV) × (List SV) × Int × Int × (List SV) → List SV := fun (S, C, K, m, r, R) => [.agg [.sl [.sl [.int .i64, .int .i64, .int .i64]] S, .sl [.str, .int .i64, .sl [.int .i64, .int .i64, .int .i64], .int .i64, .int .i64, .int .i64] C, .sl [.str, .int .i64, .int .i64, .int .i64] K, .int .i64 m, .int .i64 r], .sl [.int .i64, .int .i64] R]
theorem sh_slines_le : ∀ us a, sh_slines us = some a → leL us (em_slines a) := by
  intro us a h
  unfold sh_slines at h
  split at h
  · split at h
    · split at h
      · split at h
        · split at h
          · cases h; exact (.cons (.agg (.cons (.sl (by assumption)) (.cons (.sl (by assumption)) (.cons (.sl (by assumption)) (.cons (.refl _) (.cons (.refl _) .nil)))))) (.cons (.sl (by assumption)) .nil))
          · cases h
        · cases h
      · cases h
    · cases h
  · cases h
def slinesC : Con := conOf sh_slines (fun (S, C, K, m, r, R) => some (Ob (lnOK C R))) (fun (S, C, K, m, r, R) => .sl [.str] (lnR C R))
set_option maxRecDepth 100000 in
theorem vc_slines (S : List SV) (C : List SV) (K : List SV) (m : Int) (r : Int) (R : List SV) : (wpF ⟨42, tyT, [(29, mtextC)], false, 0, [], false⟩ ((ln_an S C K m r R)) [] Tryd.f20 (em_slines (S, C, K, m, r, R)) (.sl [.str] (lnR C R))) = (((((!decide ((↑R.length : Int) = (↑C.length : Int))) = true) → ((lnR C R = []) ∧ (True))) ∧ (((!decide ((↑R.length : Int) = (↑C.length : Int))) = false) → ((∃ (x1 : Nat), ((R = R) ∧ (((↑R.length : Int) = (↑R.length : Int)) ∧ (((0 : Int) = (↑x1 : Int)) ∧ ((S = S) ∧ ((C = C) ∧ ((K = K) ∧ ((m = m) ∧ ((r = r) ∧ (([] = lnM C R x1) ∧ (((x1 ≤ R.length) ∧ (R.length = C.length)) ∧ ((True) ∧ (True))))))))))))) ∧ (∀ (x2 : Nat), (((x2 ≤ R.length) ∧ (R.length = C.length)) → (((decide ((↑x2 : Int) < (↑R.length : Int)) = true) → (Ob ((((0 : Int) ≤ (↑x2 : Int)) ∧ ((↑x2 : Int) < (↑R.length : Int)))) ∧ (Ob ((((0 : Int) ≤ (↑x2 : Int)) ∧ ((↑x2 : Int) < (↑C.length : Int)))) ∧ (Ob (((elCell C x2 (0 : Nat)).toStr.length + (1 : Nat) ≤ (9223372036854775807 : Nat))) ∧ (Ob ((in64 (elCell R x2 (0 : Nat)).toInt)) ∧ (Ob ((((elCell C x2 (0 : Nat)).toStr ++ [(32 : UInt8)]).length + (textM (elCell R x2 (0 : Nat)).toInt).length ≤ (9223372036854775807 : Nat))) ∧ (Ob ((((elCell C x2 (0 : Nat)).toStr ++ [(32 : UInt8)] ++ textM (elCell R x2 (0 : Nat)).toInt).length + (1 : Nat) ≤ (9223372036854775807 : Nat))) ∧ (Ob ((in64 (elCell R x2 (1 : Nat)).toInt)) ∧ (Ob ((((elCell C x2 (0 : Nat)).toStr ++ [(32 : UInt8)] ++ textM (elCell R x2 (0 : Nat)).toInt ++ [(32 : UInt8)]).length + (textM (elCell R x2 (1 : Nat)).toInt).length ≤ (9223372036854775807 : Nat))) ∧ (Ob (((((lnM C R x2).length + (1 : Nat)) * (16 : Nat) ≤ (1099511627776 : Nat)) ∧ ((lnM C R x2).length + (1 : Nat) ≤ (1099511627776 : Nat)))) ∧ (∃ (x3 : Nat), ((R = R) ∧ (((↑R.length : Int) = (↑R.length : Int)) ∧ ((IntKind.i64.wrap ((↑x2 : Int) + (1 : Int)) = (↑x3 : Int)) ∧ ((S = S) ∧ ((C = C) ∧ ((K = K) ∧ ((m = m) ∧ ((r = r) ∧ ((lnM C R x2 ++ [SV.str ((elCell C x2 (0 : Nat)).toStr ++ [(32 : UInt8)] ++ textM (elCell R x2 (0 : Nat)).toInt ++ [(32 : UInt8)] ++ textM (elCell R x2 (1 : Nat)).toInt)] = lnM C R x3) ∧ (((x3 ≤ R.length) ∧ (R.length = C.length)) ∧ ((R.length - x3 < R.length - x2) ∧ (True))))))))))))))))))))))) ∧ ((decide ((↑x2 : Int) < (↑R.length : Int)) = false) → ((lnM C R x2 = lnR C R) ∧ (True)))))))))) := by kernel_rfl
def sh_llines : List SV → Option ((List SV) × (List SV) × (List SV) × Int × Int × (List SV))
  | [.agg [S', C', K', .int .i64 m, .int .i64 r], R'] => (match slOf [.sl [.int .i64, .int .i64, .int .i64]] S' with | some S => (match slOf [.str, .int .i64, .sl [.int .i64, .int .i64, .int .i64], .int .i64, .int .i64, .int .i64] C' with | some C => (match slOf [.str, .int .i64, .int .i64, .int .i64] K' with | some K => (match slOf [.int .i64, .int .i64] R' with | some R => some (S, C, K, m, r, R) | _ => none) | _ => none) | _ => none) | _ => none)
  | _ => none
def em_llines : (List SV) × (List SV) × (List SV) × Int × Int × (List SV) → List SV := fun (S, C, K, m, r, R) => [.agg [.sl [.sl [.int .i64, .int .i64, .int .i64]] S, .sl [.str, .int .i64, .sl [.int .i64, .int .i64, .int .i64], .int .i64, .int .i64, .int .i64] C, .sl [.str, .int .i64, .int .i64, .int .i64] K, .int .i64 m, .int .i64 r], .sl [.int .i64, .int .i64] R]
theorem sh_llines_le : ∀ us a, sh_llines us = some a → leL us (em_llines a) := by
  intro us a h
  unfold sh_llines at h
  split at h
  · split at h
    · split at h
      · split at h
        · split at h
          · cases h; exact (.cons (.agg (.cons (.sl (by assumption)) (.cons (.sl (by assumption)) (.cons (.sl (by assumption)) (.cons (.refl _) (.cons (.refl _) .nil)))))) (.cons (.sl (by assumption)) .nil))
          · cases h
        · cases h
      · cases h
    · cases h
  · cases h
def llinesC : Con := conOf sh_llines (fun (S, C, K, m, r, R) => some (Ob (wfL [.sl [.int .i64, .int .i64, .int .i64]] S ∧ wfL [.str, .int .i64, .sl [.int .i64, .int .i64, .int .i64], .int .i64, .int .i64, .int .i64] C ∧ wfL [.str, .int .i64, .int .i64, .int .i64] K ∧ in64 m ∧ in64 r ∧ wfL [.int .i64, .int .i64] R))) (fun (S, C, K, m, r, R) => .bool true)
set_option maxRecDepth 100000 in
theorem vc_llines (S : List SV) (C : List SV) (K : List SV) (m : Int) (r : Int) (R : List SV) : (wpF ⟨113, tyT, [(7, spostsC), (10, lrgC), (20, slinesC), (21, wname1C), (22, wcutC), (23, mparseC)], false, 0, [], false⟩ ((sll_an C R)) [] Tryd.f6 (em_llines (S, C, K, m, r, R)) (.bool true)) = (((((!true) = true) → ((true = false) ∧ (True))) ∧ (((!true) = false) → (((decide ((30 : Int) < (↑R.length : Int)) = true) → ((true = true) ∧ (True))) ∧ ((decide ((30 : Int) < (↑R.length : Int)) = false) → (((decide ((30 : Int) < (↑C.length : Int)) = true) → ((true = true) ∧ (True))) ∧ ((decide ((30 : Int) < (↑C.length : Int)) = false) → (Ob ((R.length ≤ (1000000000 : Nat))) ∧ ((((!rgB R R.length) = true) → ((true = true) ∧ (True))) ∧ (((!rgB R R.length) = false) → (Ob ((lnOK C R)) ∧ ((((!decide ((↑R.length : Int) = (↑C.length : Int))) = true) → ((decide ((↑(lnR C R).length : Int) = (0 : Int)) = true) ∧ (True))) ∧ (((!decide ((↑R.length : Int) = (↑C.length : Int))) = false) → ((((!decide ((↑(lnR C R).length : Int) = (↑R.length : Int))) = true) → ((true = false) ∧ (True))) ∧ (((!decide ((↑(lnR C R).length : Int) = (↑R.length : Int))) = false) → ((∃ (x1 : Nat), ((R = R) ∧ ((lnR C R = lnR C R) ∧ ((C = C) ∧ (((↑C.length : Int) = (↑C.length : Int)) ∧ (((0 : Int) = (↑x1 : Int)) ∧ (((x1 ≤ C.length) ∧ ((R.length = C.length) ∧ ((R.length ≤ (30 : Nat)) ∧ (rgB R R.length = true)))) ∧ ((True) ∧ (True))))))))) ∧ (∀ (x2 : Nat), (((x2 ≤ C.length) ∧ ((R.length = C.length) ∧ ((R.length ≤ (30 : Nat)) ∧ (rgB R R.length = true)))) → (((decide ((↑x2 : Int) < (↑C.length : Int)) = true) → (Ob ((((0 : Int) ≤ (↑x2 : Int)) ∧ ((↑x2 : Int) < (↑C.length : Int)))) ∧ ((((!nmB (elCell C x2 (0 : Nat)).toStr) = true) → (∃ (x3 : Nat), ((R = R) ∧ ((lnR C R = lnR C R) ∧ ((C = C) ∧ (((↑C.length : Int) = (↑C.length : Int)) ∧ ((IntKind.i64.wrap ((↑x2 : Int) + (1 : Int)) = (↑x3 : Int)) ∧ (((x3 ≤ C.length) ∧ ((R.length = C.length) ∧ ((R.length ≤ (30 : Nat)) ∧ (rgB R R.length = true)))) ∧ ((C.length - x3 < C.length - x2) ∧ (True)))))))))) ∧ (((!nmB (elCell C x2 (0 : Nat)).toStr) = false) → (Ob ((((0 : Int) ≤ (↑x2 : Int)) ∧ ((↑x2 : Int) < (↑(lnR C R).length : Int)))) ∧ ((((!decide ((cutR (elCell (lnR C R) x2 (0 : Nat)).toStr).snd = (0 : Int))) = true) → ((true = false) ∧ (True))) ∧ (((!decide ((cutR (elCell (lnR C R) x2 (0 : Nat)).toStr).snd = (0 : Int))) = false) → ((((!decide ((↑(strs (cutR (elCell (lnR C R) x2 (0 : Nat)).toStr).fst).length : Int) = (3 : Int))) = true) → ((true = false) ∧ (True))) ∧ (((!decide ((↑(strs (cutR (elCell (lnR C R) x2 (0 : Nat)).toStr).fst).length : Int) = (3 : Int))) = false) → (Ob ((((0 : Int) ≤ (0 : Int)) ∧ ((0 : Int) < (↑(strs (cutR (elCell (lnR C R) x2 (0 : Nat)).toStr).fst).length : Int)))) ∧ ((((!decide ((elCell (strs (cutR (elCell (lnR C R) x2 (0 : Nat)).toStr).fst) (0 : Nat) (0 : Nat)).toStr = (elCell C x2 (0 : Nat)).toStr)) = true) → ((true = false) ∧ (True))) ∧ (((!decide ((elCell (strs (cutR (elCell (lnR C R) x2 (0 : Nat)).toStr).fst) (0 : Nat) (0 : Nat)).toStr = (elCell C x2 (0 : Nat)).toStr)) = false) → (Ob ((((0 : Int) ≤ (1 : Int)) ∧ ((1 : Int) < (↑(strs (cutR (elCell (lnR C R) x2 (0 : Nat)).toStr).fst).length : Int)))) ∧ (Ob (((elCell (strs (cutR (elCell (lnR C R) x2 (0 : Nat)).toStr).fst) (1 : Nat) (0 : Nat)).toStr.length ≤ (1000 : Nat))) ∧ (Ob ((((0 : Int) ≤ (2 : Int)) ∧ ((2 : Int) < (↑(strs (cutR (elCell (lnR C R) x2 (0 : Nat)).toStr).fst).length : Int)))) ∧ (Ob (((elCell (strs (cutR (elCell (lnR C R) x2 (0 : Nat)).toStr).fst) (2 : Nat) (0 : Nat)).toStr.length ≤ (1000 : Nat))) ∧ ((((!decide (peM (sgM (elCell (strs (cutR (elCell (lnR C R) x2 (0 : Nat)).toStr).fst) (1 : Nat) (0 : Nat)).toStr) (tM (elCell (strs (cutR (elCell (lnR C R) x2 (0 : Nat)).toStr).fst) (1 : Nat) (0 : Nat)).toStr) = (0 : Int))) = true) → ((true = false) ∧ (True))) ∧ (((!decide (peM (sgM (elCell (strs (cutR (elCell (lnR C R) x2 (0 : Nat)).toStr).fst) (1 : Nat) (0 : Nat)).toStr) (tM (elCell (strs (cutR (elCell (lnR C R) x2 (0 : Nat)).toStr).fst) (1 : Nat) (0 : Nat)).toStr) = (0 : Int))) = false) → ((((!decide (peM (sgM (elCell (strs (cutR (elCell (lnR C R) x2 (0 : Nat)).toStr).fst) (2 : Nat) (0 : Nat)).toStr) (tM (elCell (strs (cutR (elCell (lnR C R) x2 (0 : Nat)).toStr).fst) (2 : Nat) (0 : Nat)).toStr) = (0 : Int))) = true) → ((true = false) ∧ (True))) ∧ (((!decide (peM (sgM (elCell (strs (cutR (elCell (lnR C R) x2 (0 : Nat)).toStr).fst) (2 : Nat) (0 : Nat)).toStr) (tM (elCell (strs (cutR (elCell (lnR C R) x2 (0 : Nat)).toStr).fst) (2 : Nat) (0 : Nat)).toStr) = (0 : Int))) = false) → (Ob ((((0 : Int) ≤ (↑x2 : Int)) ∧ ((↑x2 : Int) < (↑R.length : Int)))) ∧ ((((!(decide ((elCell R x2 (0 : Nat)).toInt = pvM (sgM (elCell (strs (cutR (elCell (lnR C R) x2 (0 : Nat)).toStr).fst) (1 : Nat) (0 : Nat)).toStr) (tM (elCell (strs (cutR (elCell (lnR C R) x2 (0 : Nat)).toStr).fst) (1 : Nat) (0 : Nat)).toStr)) && decide ((elCell R x2 (1 : Nat)).toInt = pvM (sgM (elCell (strs (cutR (elCell (lnR C R) x2 (0 : Nat)).toStr).fst) (2 : Nat) (0 : Nat)).toStr) (tM (elCell (strs (cutR (elCell (lnR C R) x2 (0 : Nat)).toStr).fst) (2 : Nat) (0 : Nat)).toStr)))) = true) → ((true = false) ∧ (True))) ∧ (((!(decide ((elCell R x2 (0 : Nat)).toInt = pvM (sgM (elCell (strs (cutR (elCell (lnR C R) x2 (0 : Nat)).toStr).fst) (1 : Nat) (0 : Nat)).toStr) (tM (elCell (strs (cutR (elCell (lnR C R) x2 (0 : Nat)).toStr).fst) (1 : Nat) (0 : Nat)).toStr)) && decide ((elCell R x2 (1 : Nat)).toInt = pvM (sgM (elCell (strs (cutR (elCell (lnR C R) x2 (0 : Nat)).toStr).fst) (2 : Nat) (0 : Nat)).toStr) (tM (elCell (strs (cutR (elCell (lnR C R) x2 (0 : Nat)).toStr).fst) (2 : Nat) (0 : Nat)).toStr)))) = false) → (∃ (x4 : Nat), ((R = R) ∧ ((lnR C R = lnR C R) ∧ ((C = C) ∧ (((↑C.length : Int) = (↑C.length : Int)) ∧ ((IntKind.i64.wrap ((↑x2 : Int) + (1 : Int)) = (↑x4 : Int)) ∧ (((x4 ≤ C.length) ∧ ((R.length = C.length) ∧ ((R.length ≤ (30 : Nat)) ∧ (rgB R R.length = true)))) ∧ ((C.length - x4 < C.length - x2) ∧ (True)))))))))))))))))))))))))))))))) ∧ ((decide ((↑x2 : Int) < (↑C.length : Int)) = false) → ((true = true) ∧ (True)))))))))))))))))))))) := by kernel_rfl
theorem nmA_eq (C : List SV) (i : Nat) : (elCell C i 0).toStr = nmA C i := rfl
theorem text_len {x : Int} (h : in64 x) : (textM x).length ≤ 24 := by
  have := bodyM_len (n := x.natAbs) (by unfold in64 at h; omega)
  unfold textM
  rw [List.length_append]
  split <;> simp <;> omega
theorem dg_pln {s : List UInt8} (h : s.all dgM = true) : s.all plnB = true := by
  rw [List.all_eq_true] at h ⊢
  intro c hc
  have := dgM_iff.1 (h c hc)
  exact plnB_iff.2 (by omega)
theorem text_bare {x : Int} (h : in64 x) : bareW (textM x) = true := by
  obtain ⟨f1, _⟩ := dec_factsM 16 (x.natAbs / 100) (by unfold in64 at h; omega)
  have hr : x.natAbs % 100 < 100 := Nat.mod_lt _ (by decide)
  have hd1 := ofNat_u8M (k := x.natAbs % 100 / 10) (by omega)
  have hd2 := ofNat_u8M (k := x.natAbs % 100 % 10) (by omega)
  have c1 : plnB (UInt8.ofNat (48 + x.natAbs % 100 / 10)) = true := plnB_iff.2 (by omega)
  have c2 : plnB (UInt8.ofNat (48 + x.natAbs % 100 % 10)) = true := plnB_iff.2 (by omega)
  have e : (textM x).all plnB = true := by
    unfold textM bodyM twoM
    rw [List.all_append, List.all_append, List.all_append, dg_pln f1]
    have e45 : plnB 45 = true := by decide
    have e46 : plnB 46 = true := by decide
    split <;> simp only [List.all_cons, List.all_nil, c1, c2, e45, e46, Bool.and_self]
  unfold bareW
  rw [e, Bool.and_true]
  unfold textM bodyM
  simp
theorem lnM_len (C R : List SV) (n : Nat) : (lnM C R n).length = n := by simp [lnM]
theorem lnM_next (C R : List SV) (n : Nat) : lnM C R n ++ [.str (lnW C R n)] = lnM C R (n + 1) := by
  unfold lnM; rw [List.range_succ, List.map_append]; rfl
theorem lnM_get {C R : List SV} {n i : Nat} (h : i < n) : (elCell (lnM C R n) i 0).toStr = lnW C R i := by
  unfold elCell
  rw [show (lnM C R n).getD i .any = .str (lnW C R i) by simp [lnM, List.getD_eq_getElem?_getD, h]]; rfl
theorem slines_known : Known Tryd.prog 20 slinesC := by
  refine known1 (nt := 42) (An := fun (S, C, K, m, r, R) => (ln_an S C K m r R)) (labs := []) (lit := false) (em := em_slines) sh_slines_le (by kernel_rfl) mixedT tyT_ok (.cons mtext_known .nil) Tryd.func20 (by kernel_rfl) (fun a => by obtain ⟨S, C, K, m, r, R⟩ := a; kernel_rfl) (fun a => by obtain ⟨S, C, K, m, r, R⟩ := a; rfl) (fun a ha => ?_)
  obtain ⟨S, C, K, m, r, R⟩ := a
  replace ha : lnOK C R := ha.out
  refine ⟨_, vc_slines S C K m r R, ?_⟩
  simp only [Int.reduceLE, Int.reduceLT, Int.reduceEq, Int.reduceNe, Nat.reduceLeDiff, Nat.reduceEqDiff, beq_eq_false_iff_ne, beq_iff_eq, decide_eq_decide, ne_eq, eq_self, true_and, and_true, and_self, and_false, false_and, Bool.not_true, Bool.not_false, Bool.false_eq_true, Bool.true_eq_false, false_implies, true_implies, implies_true, imp_false, not_true, not_false_eq_true, decide_eq_true_eq, decide_eq_false_iff_not, Bool.not_eq_true', Bool.not_eq_false', Bool.and_eq_true, Classical.not_not, decide_true, decide_false, Bool.and_true, Bool.true_and, if_true, if_false, Ob_iff]
  simp only [nmA_eq, cl_eq, lnM_len]
  refine ⟨fun h => by unfold lnR; rw [if_pos (by omega)], fun h => ⟨⟨0, rfl, rfl, by omega, by omega⟩, fun i hi => ⟨fun hlt => ?_, fun hge => ?_⟩⟩⟩
  · obtain ⟨a1, a2, a3⟩ := ha
    have q1 := a2 i (by omega)
    obtain ⟨q2, q3⟩ := a3 i (by omega)
    have q4 := text_len q2
    have q5 := text_len q3
    unfold maxStr at q1
    refine ⟨by omega, by omega, by omega, q2, by simp; omega, by simp; omega, q3, by simp; omega, by omega, i + 1, by rw [wrapI (by omega)]; omega, lnM_next C R i, by omega, by omega⟩
  · rw [show i = R.length by omega]
    unfold lnR; rw [if_neg (by omega)]

theorem nm_wf {ks : List CK} {C : List SV} (h : wfL (.str :: ks) C) {i : Nat} (hi : i < C.length) : (nmA C i).length ≤ maxStr := by
  obtain ⟨us, q1, q2⟩ := wfL_get h hi
  obtain ⟨v, vs, rfl, q3, q4⟩ := wfKs_cons q1
  obtain ⟨s, rfl, hs⟩ := wfK_str q3
  have e : (elOf (SV.str s :: vs)).cells.getD 0 .any = .str s := by cases vs <;> rfl
  unfold nmA elCell
  rw [q2, e]; exact hs
theorem sh_wf {R : List SV} (h : wfL shK R) {i : Nat} (hi : i < R.length) : in64 (cl R i 0) ∧ in64 (cl R i 1) := by
  obtain ⟨us, q1, q2⟩ := wfL_get h hi
  obtain ⟨v, vs, rfl, q3, q4⟩ := wfKs_cons q1
  obtain ⟨v', vs', rfl, q5, q6⟩ := wfKs_cons q4
  obtain ⟨a, rfl, ha⟩ := wfK_int q3
  obtain ⟨b, rfl, hb⟩ := wfK_int q5
  rw [wfKs_nil q6] at q2
  unfold cl elCell
  rw [q2]; exact ⟨ha, hb⟩
theorem rgB_get {l : List SV} {i : Nat} : ∀ {n : Nat}, rgB l n = true → i < n → rightB (cl l i 0) = true ∧ rightB (cl l i 1) = true
  | 0, _, h => by omega
  | n + 1, h, hi => by
    simp only [rgB, Bool.and_eq_true] at h
    rcases Nat.lt_or_ge i n with h1 | h1
    · exact rgB_get h.1 h1
    · rw [show i = n by omega]; exact h.2
set_option maxHeartbeats 1600000 in
theorem llines_known : Known Tryd.prog 6 llinesC := by
  refine known1 (nt := 113) (An := fun (S, C, K, m, r, R) => (sll_an C R)) (labs := []) (lit := false) (em := em_llines) sh_llines_le (by kernel_rfl) mixedT tyT_ok (.cons sposts_known (.cons lrg_known (.cons slines_known (.cons wname1_known (.cons wcut_known (.cons mparse_known .nil)))))) Tryd.func6 (by kernel_rfl) (fun a => by obtain ⟨S, C, K, m, r, R⟩ := a; kernel_rfl) (fun a => by obtain ⟨S, C, K, m, r, R⟩ := a; rfl) (fun a ha => ?_)
  obtain ⟨S, C, K, m, r, R⟩ := a
  replace ha : wfL [.sl [.int .i64, .int .i64, .int .i64]] S ∧ wfL [.str, .int .i64, .sl [.int .i64, .int .i64, .int .i64], .int .i64, .int .i64, .int .i64] C ∧ wfL [.str, .int .i64, .int .i64, .int .i64] K ∧ in64 m ∧ in64 r ∧ wfL [.int .i64, .int .i64] R := ha.out
  refine ⟨_, vc_llines S C K m r R, ?_⟩
  simp only [Int.reduceLE, Int.reduceLT, Int.reduceEq, Int.reduceNe, Nat.reduceLeDiff, Nat.reduceEqDiff, beq_eq_false_iff_ne, beq_iff_eq, decide_eq_decide, ne_eq, eq_self, true_and, and_true, and_self, and_false, false_and, Bool.not_true, Bool.not_false, Bool.false_eq_true, Bool.true_eq_false, false_implies, true_implies, implies_true, imp_false, not_true, not_false_eq_true, decide_eq_true_eq, decide_eq_false_iff_not, Bool.not_eq_true', Bool.not_eq_false', Bool.and_eq_true, Classical.not_not, decide_true, decide_false, Bool.and_true, Bool.true_and, if_true, if_false, Ob_iff]
  simp only [nmA_eq, cl_eq]
  obtain ⟨_, hC, _, _, _, hR⟩ := ha
  refine fun h30 hC30 => ⟨by omega, fun hrg => ⟨⟨by omega, fun i hi => nm_wf hC hi, fun i hi => sh_wf hR hi⟩, fun hn => by unfold lnR; rw [if_pos (by omega)]; rfl, fun he => ?_⟩⟩
  have eR : lnR C R = lnM C R R.length := by unfold lnR; rw [if_neg (by omega)]
  rw [eR, lnM_len]
  refine ⟨rfl, fun _ => ⟨⟨0, rfl, by omega, by omega, by omega, hrg⟩, fun i hi hlt => ?_⟩⟩
  have next : ∃ x3 : Nat, IntKind.i64.wrap ((i : Int) + 1) = x3 ∧ (x3 ≤ C.length ∧ R.length = C.length ∧ R.length ≤ 30 ∧ rgB R R.length = true) ∧ C.length - x3 < C.length - i :=
    ⟨i + 1, by rw [wrapI (by omega)]; omega, ⟨by omega, by omega, by omega, hrg⟩, by omega⟩
  refine ⟨by omega, fun _ => next, fun hnm => ?_⟩
  obtain ⟨n1, n2⟩ := nm_bare hnm
  obtain ⟨w1, w2⟩ := sh_wf hR (i := i) (by omega)
  obtain ⟨r1, r2⟩ := rgB_get hrg (i := i) (by omega)
  have l1 := text_len w1
  have l2 := text_len w2
  have hcut : cutR (nmA (lnM C R R.length) i) = ([nmA C i, textM (cl R i 0), textM (cl R i 1)], 0) := by
    rw [show nmA (lnM C R R.length) i = _ from lnM_get (by omega)]
    exact cut3 n1 (text_bare w1) (text_bare w2) (by simp; omega)
  simp only [hcut]
  obtain ⟨p1, p2⟩ := text_pe (x := cl R i 0) w1.1 w1.2
  obtain ⟨p3, p4⟩ := text_pe (x := cl R i 1) w2.1 w2.2
  have q2 := p2 r1
  have q4 := p4 r2
  rw [r1] at p1
  rw [r2] at p3
  clear hcut
  generalize textM (cl R i 0) = A at *
  generalize textM (cl R i 1) = B at *
  generalize nmA C i = N at *
  have e0 : nmA (strs [N, A, B]) 0 = N := rfl
  have e1 : nmA (strs [N, A, B]) 1 = A := rfl
  have e2 : nmA (strs [N, A, B]) 2 = B := rfl
  have el : (strs [N, A, B]).length = 3 := rfl
  have ec : chkE true = 0 := rfl
  simp only [e0, e1, e2, el, p1, p3, q2, q4, ec]
  refine ⟨by omega, trivial, fun _ => ⟨rfl, fun _ => ⟨by decide, trivial, fun _ => ⟨by decide, by omega, by decide, by omega, trivial, fun _ => ⟨trivial, fun _ => ⟨by omega, by simp, fun _ => next⟩⟩⟩⟩⟩⟩

end Go.Rx
