/- What is posted: the statements' own first check, gone through as it is; both sides of all. -/
import Derived.Test.YthhoimfigekagaaDoorPr
import Derived.Test.YthhoimfigekagaaDoorMon5
namespace Go.Rx
open Go.Proofs
set_option linter.unusedSimpArgs false
set_option linter.unusedVariables false

def scV (c : Int) (l : List SV) : Int := if totB l l.length = true then addV c (totV l 1) else 0
def scE (c : Int) (l : List SV) : Int := if totB l l.length = true then chkE (addB c (totV l 1)) else 10
def rgB (l : List SV) : Nat → Bool
  | 0 => true
  | i + 1 => rgB l i && (rightB (cl l i 0) && rightB (cl l i 1))
def rg_an (l : List SV) : Nat → Option Ann
  | 0 => some ⟨Nat, fun i => ⟨[(5, .sl shK l), (6, .int .i64 l.length), (7, .int .i64 i)], []⟩, fun i => i ≤ l.length ∧ l.length ≤ 1000000000 ∧ rgB l i = true, fun i => l.length - i, [5, 6, 7], [], [], fun _ _ => none⟩
  | _ => none

def sh_semp : List SV → Option (List SV)
  | [l'] => (match slOf [.int .i64, .int .i64] l' with | some l => some l | _ => none)
  | _ => none
def em_semp : List SV → List SV := fun l => [.sl [.int .i64, .int .i64] l]
theorem sh_semp_le : ∀ us a, sh_semp us = some a → leL us (em_semp a) := by
  intro us a h
  unfold sh_semp at h
  split at h
  · split at h
    · cases h; exact (.cons (.sl (by assumption)) .nil)
    · cases h
  · cases h
def sempC : Con := conOf sh_semp (fun l => some (Ob (l.length ≤ 9000000000000000000))) (fun l => .tup [.int .i64 (totV l 1), .int .i64 (chkE (totB l l.length))])
set_option maxRecDepth 100000 in
theorem vc_semp (l : List SV) : (wpF ⟨14, tyT, [(15, sidesC)], false, 0, [], false⟩ (noAnn) [] Tryd.f17 (em_semp l) (.tup [.int .i64 (totV l 1), .int .i64 (chkE (totB l l.length))])) = ((Ob ((l.length ≤ (9000000000000000000 : Nat))) ∧ ((totV l (1 : Nat) = totV l (1 : Nat)) ∧ ((chkE (totB l l.length) = chkE (totB l l.length)) ∧ (True))))) := by kernel_rfl
def sh_scost : List SV → Option (Int × (List SV))
  | [.int .i64 c, l'] => (match slOf [.int .i64, .int .i64] l' with | some l => some (c, l) | _ => none)
  | _ => none
def em_scost : Int × (List SV) → List SV := fun (c, l) => [.int .i64 c, .sl [.int .i64, .int .i64] l]
theorem sh_scost_le : ∀ us a, sh_scost us = some a → leL us (em_scost a) := by
  intro us a h
  unfold sh_scost at h
  split at h
  · split at h
    · cases h; exact (.cons (.refl _) (.cons (.sl (by assumption)) .nil))
    · cases h
  · cases h
def scostC : Con := conOf sh_scost (fun (c, l) => some (Ob (l.length ≤ 9000000000000000000))) (fun (c, l) => .tup [.int .i64 (scV c l), .int .i64 (scE c l)])
set_option maxRecDepth 100000 in
theorem vc_scost (c : Int) (l : List SV) : (wpF ⟨21, tyT, [(17, sempC), (19, maddC)], false, 0, [], false⟩ (noAnn) [] Tryd.f18 (em_scost (c, l)) (.tup [.int .i64 (scV c l), .int .i64 (scE c l)])) = ((Ob ((l.length ≤ (9000000000000000000 : Nat))) ∧ ((((!decide (chkE (totB l l.length) = (0 : Int))) = true) → (((0 : Int) = scV c l) ∧ ((chkE (totB l l.length) = scE c l) ∧ (True)))) ∧ (((!decide (chkE (totB l l.length) = (0 : Int))) = false) → ((addV c (totV l (1 : Nat)) = scV c l) ∧ ((chkE (addB c (totV l (1 : Nat))) = scE c l) ∧ (True))))))) := by kernel_rfl
def sh_sposted : List SV → Option ((List SV) × Int)
  | [.lp 65 [R', .int .i64 n]] => (match slOf [.int .i64, .int .i64] R' with | some R => some (R, n) | _ => none)
  | _ => none
def em_sposted : (List SV) × Int → List SV := fun (R, n) => [.lp 65 [.sl [.int .i64, .int .i64] R, .int .i64 n]]
theorem sh_sposted_le : ∀ us a, sh_sposted us = some a → leL us (em_sposted a) := by
  intro us a h
  unfold sh_sposted at h
  split at h
  · split at h
    · cases h; exact (.cons (.lp (.cons (.sl (by assumption)) (.cons (.refl _) .nil))) .nil)
    · cases h
  · cases h
def spostedC : Con := conOf sh_sposted (fun (R, n) => some (Ob (R.length ≤ 1000000000))) (fun (R, n) => .sl shK R)
set_option maxRecDepth 100000 in
theorem vc_sposted (R : List SV) (n : Int) : (wpF ⟨17, tyT, [], false, 0, [], false⟩ (noAnn) [] Tryd.f13 (em_sposted (R, n)) (.sl shK R)) = ((Ob ((((↑R.length : Int) = (↑R.length : Int)) ∧ (((0 : Int) ≤ (↑R.length : Int)) ∧ (((↑R.length : Int) * (16 : Int) ≤ (1099511627776 : Int)) ∧ ((↑R.length : Int) ≤ (1099511627776 : Int)))))) ∧ ((copyL (List.replicate R.length (SV.agg [SV.int IntKind.i64 (0 : Int), SV.int IntKind.i64 (0 : Int)])) R = R) ∧ (True)))) := by kernel_rfl
def sh_spostsN : List SV → Option ((List SV) × Int)
  | [.lp 65 [R', .int .i64 n]] => (match slOf [.int .i64, .int .i64] R' with | some R => some (R, n) | _ => none)
  | _ => none
def em_spostsN : (List SV) × Int → List SV := fun (R, n) => [.lp 65 [.sl [.int .i64, .int .i64] R, .int .i64 n]]
theorem sh_spostsN_le : ∀ us a, sh_spostsN us = some a → leL us (em_spostsN a) := by
  intro us a h
  unfold sh_spostsN at h
  split at h
  · split at h
    · cases h; exact (.cons (.lp (.cons (.sl (by assumption)) (.cons (.refl _) .nil))) .nil)
    · cases h
  · cases h
def spostsNC : Con := conOf sh_spostsN (fun _ => none) (fun (R, n) => .int .i64 n)
set_option maxRecDepth 100000 in
theorem vc_spostsN (R : List SV) (n : Int) : (wpF ⟨7, tyT, [], false, 0, [], false⟩ (noAnn) [] Tryd.f14 (em_spostsN (R, n)) (.int .i64 n)) = (((n = n) ∧ (True))) := by kernel_rfl
def tr_psnew : Tr := trOf 17 tyT [(25, ssumC)] true [] true (fun _ _ _ => plAn) [] Tryd.f11
theorem psnew_in : InK Tryd.prog 11 tr_psnew := inK1 (by kernel_rfl) mixedT tyT_ok (.cons ssum_known .nil) .nil Tryd.func11 (by kernel_rfl)
def tr_psreach : Tr := trOf 45 tyT [(8, sdeltaC), (9, spostC)] true [] true (fun _ _ _ => plAn) [] Tryd.f12
theorem psreach_in : InK Tryd.prog 12 tr_psreach := inK1 (by kernel_rfl) mixedT tyT_ok (.cons sdelta_known (.cons spost_known .nil)) .nil Tryd.func12 (by kernel_rfl)
def tr_plines : Tr := trOf 42 tyT [(29, mtextC)] true [] true (fun _ _ _ => plAn) [] Tryd.f20
theorem plines_in : InK Tryd.prog 20 tr_plines := inK1 (by kernel_rfl) mixedT tyT_ok (.cons mtext_known .nil) .nil Tryd.func20 (by kernel_rfl)
def sh_sposts : List SV → Option (Unit)
  | [] => some ()
  | _ => none
def em_sposts : Unit → List SV := fun _ => []
theorem sh_sposts_le : ∀ us a, sh_sposts us = some a → leL us (em_sposts a) := by
  intro us a h
  unfold sh_sposts at h
  split at h
  · cases h; exact .nil
  · cases h
def spostsC : Con := conOf sh_sposts (fun _ => none) (fun _ => .bool true)
set_option maxRecDepth 100000 in
theorem vc_sposts (_u : Unit) : (wpF ⟨110, tyT, [(18, scostC), (13, spostedC), (14, spostsNC)], true, 0, [(11, tr_psnew), (12, tr_psreach), (20, tr_plines)], true⟩ (plAn) [] Tryd.f7 (em_sposts _u) (.bool true)) = ((Ob (((in64 (1 : Int)) ∧ ((0 : Nat) ≤ (1000000000 : Nat)))) ∧ (Ob ((((1 : Nat) ≤ (1000000000 : Nat)) ∧ ((1 : Nat) ≤ (1000000000 : Nat)))) ∧ (Ob ((((1 : Nat) ≤ (1000000000 : Nat)) ∧ ((1 : Nat) ≤ (1000000000 : Nat)))) ∧ (Ob ((((1 : Nat) ≤ (1000000000 : Nat)) ∧ ((1 : Nat) ≤ (1000000000 : Nat)))) ∧ (Ob ((((1 : Nat) ≤ (1000000000 : Nat)) ∧ ((1 : Nat) ≤ (1000000000 : Nat)))) ∧ (Ob (((2 : Nat) ≤ (9000000000000000000 : Nat))) ∧ (Ob ((((0 : Int) ≤ (0 : Int)) ∧ ((0 : Int) < (1 : Int)))) ∧ (Ob ((((0 : Int) ≤ (0 : Int)) ∧ ((0 : Int) < (1 : Int)))) ∧ (Ob (((0 : Nat) < (1 : Nat))) ∧ (Ob (((0 : Nat) < (1 : Nat))) ∧ (Ob (((5 : Nat) ≤ (9223372036854775807 : Nat))) ∧ (Ob ((in64 (-2 : Int))) ∧ (Ob (((10 : Nat) ≤ (9223372036854775807 : Nat))) ∧ (Ob (((11 : Nat) ≤ (9223372036854775807 : Nat))) ∧ (Ob ((in64 (0 : Int))) ∧ (Ob (((15 : Nat) ≤ (9223372036854775807 : Nat))) ∧ (Ob ((((16 : Nat) ≤ (1099511627776 : Nat)) ∧ ((1 : Nat) ≤ (1099511627776 : Nat)))) ∧ (Ob ((((0 : Int) ≤ (0 : Int)) ∧ ((0 : Int) < (1 : Int)))) ∧ (Ob ((((0 : Int) ≤ (0 : Int)) ∧ ((0 : Int) < (1 : Int)))) ∧ (Ob (((1 : Nat) ≤ (1000000000 : Nat))) ∧ (Ob (((1 : Nat) ≤ (1000000000 : Nat))) ∧ (Ob ((((0 : Int) ≤ (0 : Int)) ∧ ((0 : Int) < (1 : Int)))) ∧ (Ob ((((0 : Int) ≤ (0 : Int)) ∧ ((0 : Int) < (1 : Int)))) ∧ (Ob (((0 : Nat) < (1 : Nat))) ∧ ((true = true) ∧ (True))))))))))))))))))))))))))) := by kernel_rfl
def sh_lrg : List SV → Option (List SV)
  | [l'] => (match slOf [.int .i64, .int .i64] l' with | some l => some l | _ => none)
  | _ => none
def em_lrg : List SV → List SV := fun l => [.sl [.int .i64, .int .i64] l]
theorem sh_lrg_le : ∀ us a, sh_lrg us = some a → leL us (em_lrg a) := by
  intro us a h
  unfold sh_lrg at h
  split at h
  · split at h
    · cases h; exact (.cons (.sl (by assumption)) .nil)
    · cases h
  · cases h
def lrgC : Con := conOf sh_lrg (fun l => some (Ob (l.length ≤ 1000000000))) (fun l => .bool (rgB l l.length))
set_option maxRecDepth 100000 in
theorem vc_lrg (l : List SV) : (wpF ⟨30, tyT, [], false, 0, [], false⟩ ((rg_an l)) [] Tryd.f10 (em_lrg l) (.bool (rgB l l.length))) = (((∃ (x1 : Nat), ((l = l) ∧ (((↑l.length : Int) = (↑l.length : Int)) ∧ (((0 : Int) = (↑x1 : Int)) ∧ (((x1 ≤ l.length) ∧ ((l.length ≤ (1000000000 : Nat)) ∧ (rgB l x1 = true))) ∧ ((True) ∧ (True))))))) ∧ (∀ (x2 : Nat), (((x2 ≤ l.length) ∧ ((l.length ≤ (1000000000 : Nat)) ∧ (rgB l x2 = true))) → (((decide ((↑x2 : Int) < (↑l.length : Int)) = true) → (Ob ((((0 : Int) ≤ (↑x2 : Int)) ∧ ((↑x2 : Int) < (↑l.length : Int)))) ∧ (((decide ((100000000000 : Int) < (elCell l x2 (0 : Nat)).toInt) = true) → ((rgB l l.length = false) ∧ (True))) ∧ ((decide ((100000000000 : Int) < (elCell l x2 (0 : Nat)).toInt) = false) → (((decide ((elCell l x2 (0 : Nat)).toInt < (-100000000000 : Int)) = true) → ((rgB l l.length = false) ∧ (True))) ∧ ((decide ((elCell l x2 (0 : Nat)).toInt < (-100000000000 : Int)) = false) → (((decide ((100000000000 : Int) < (elCell l x2 (1 : Nat)).toInt) = true) → ((rgB l l.length = false) ∧ (True))) ∧ ((decide ((100000000000 : Int) < (elCell l x2 (1 : Nat)).toInt) = false) → (((decide ((elCell l x2 (1 : Nat)).toInt < (-100000000000 : Int)) = true) → ((rgB l l.length = false) ∧ (True))) ∧ ((decide ((elCell l x2 (1 : Nat)).toInt < (-100000000000 : Int)) = false) → (∃ (x3 : Nat), ((l = l) ∧ (((↑l.length : Int) = (↑l.length : Int)) ∧ ((IntKind.i64.wrap ((↑x2 : Int) + (1 : Int)) = (↑x3 : Int)) ∧ (((x3 ≤ l.length) ∧ ((l.length ≤ (1000000000 : Nat)) ∧ (rgB l x3 = true))) ∧ ((l.length - x3 < l.length - x2) ∧ (True))))))))))))))))) ∧ ((decide ((↑x2 : Int) < (↑l.length : Int)) = false) → ((rgB l l.length = true) ∧ (True)))))))) := by kernel_rfl
theorem copyL_all {l l' : List SV} (h : l'.length = l.length) : copyL l l' = l' := by
  unfold copyL
  rw [List.take_of_length_le (by omega), List.drop_of_length_le (by omega), List.append_nil]
theorem semp_known : Known Tryd.prog 17 sempC := by
  refine known1 (nt := 14) (An := fun l => noAnn) (labs := []) (lit := false) (em := em_semp) sh_semp_le (by kernel_rfl) mixedT tyT_ok (.cons sides_known .nil) Tryd.func17 (by kernel_rfl) (fun a => by kernel_rfl) (fun a => by rfl) (fun l ha => ?_)
  replace ha : l.length ≤ 9000000000000000000 := ha.out
  refine ⟨_, vc_semp l, ?_⟩
  simp only [Int.reduceLE, Int.reduceLT, Int.reduceEq, Int.reduceNe, Nat.reduceLeDiff, Nat.reduceEqDiff, beq_eq_false_iff_ne, beq_iff_eq, decide_eq_decide, ne_eq, eq_self, true_and, and_true, and_self, and_false, false_and, Bool.not_true, Bool.not_false, Bool.false_eq_true, Bool.true_eq_false, false_implies, true_implies, implies_true, imp_false, not_true, not_false_eq_true, decide_eq_true_eq, decide_eq_false_iff_not, Bool.not_eq_true', Bool.not_eq_false', Bool.and_eq_true, Classical.not_not, decide_true, decide_false, Bool.and_true, Bool.true_and, if_true, if_false, Ob_iff]
  exact ha

theorem scost_known : Known Tryd.prog 18 scostC := by
  refine known1 (nt := 21) (An := fun (c, l) => noAnn) (labs := []) (lit := false) (em := em_scost) sh_scost_le (by kernel_rfl) mixedT tyT_ok (.cons semp_known (.cons madd_known .nil)) Tryd.func18 (by kernel_rfl) (fun a => by obtain ⟨c, l⟩ := a; kernel_rfl) (fun a => by obtain ⟨c, l⟩ := a; rfl) (fun a ha => ?_)
  obtain ⟨c, l⟩ := a
  replace ha : l.length ≤ 9000000000000000000 := ha.out
  refine ⟨_, vc_scost c l, ?_⟩
  simp only [Int.reduceLE, Int.reduceLT, Int.reduceEq, Int.reduceNe, Nat.reduceLeDiff, Nat.reduceEqDiff, beq_eq_false_iff_ne, beq_iff_eq, decide_eq_decide, ne_eq, eq_self, true_and, and_true, and_self, and_false, false_and, Bool.not_true, Bool.not_false, Bool.false_eq_true, Bool.true_eq_false, false_implies, true_implies, implies_true, imp_false, not_true, not_false_eq_true, decide_eq_true_eq, decide_eq_false_iff_not, Bool.not_eq_true', Bool.not_eq_false', Bool.and_eq_true, Classical.not_not, decide_true, decide_false, Bool.and_true, Bool.true_and, if_true, if_false, Ob_iff]
  simp only [chkE_z, not_t]
  refine ⟨ha, fun h => ?_, fun h => ?_⟩
  · unfold scV scE; rw [h]; exact ⟨rfl, rfl⟩
  · unfold scV scE; rw [h]; exact ⟨rfl, rfl⟩

theorem sposted_known : Known Tryd.prog 13 spostedC := by
  refine known1 (nt := 17) (An := fun (R, n) => noAnn) (labs := []) (lit := false) (em := em_sposted) sh_sposted_le (by kernel_rfl) mixedT tyT_ok .nil Tryd.func13 (by kernel_rfl) (fun a => by obtain ⟨R, n⟩ := a; kernel_rfl) (fun a => by obtain ⟨R, n⟩ := a; rfl) (fun a ha => ?_)
  obtain ⟨R, n⟩ := a
  replace ha : R.length ≤ 1000000000 := ha.out
  refine ⟨_, vc_sposted R n, ?_⟩
  simp only [Int.reduceLE, Int.reduceLT, Int.reduceEq, Int.reduceNe, Nat.reduceLeDiff, Nat.reduceEqDiff, beq_eq_false_iff_ne, beq_iff_eq, decide_eq_decide, ne_eq, eq_self, true_and, and_true, and_self, and_false, false_and, Bool.not_true, Bool.not_false, Bool.false_eq_true, Bool.true_eq_false, false_implies, true_implies, implies_true, imp_false, not_true, not_false_eq_true, decide_eq_true_eq, decide_eq_false_iff_not, Bool.not_eq_true', Bool.not_eq_false', Bool.and_eq_true, Classical.not_not, decide_true, decide_false, Bool.and_true, Bool.true_and, if_true, if_false, Ob_iff]
  exact ⟨by omega, copyL_all (by simp)⟩

theorem spostsN_known : Known Tryd.prog 14 spostsNC := by
  refine known1 (nt := 7) (An := fun (R, n) => noAnn) (labs := []) (lit := false) (em := em_spostsN) sh_spostsN_le (by kernel_rfl) mixedT tyT_ok .nil Tryd.func14 (by kernel_rfl) (fun a => by obtain ⟨R, n⟩ := a; kernel_rfl) (fun a => by obtain ⟨R, n⟩ := a; rfl) (fun a ha => ?_)
  obtain ⟨R, n⟩ := a
  refine ⟨_, vc_spostsN R n, ?_⟩
  simp only [Int.reduceLE, Int.reduceLT, Int.reduceEq, Int.reduceNe, Nat.reduceLeDiff, Nat.reduceEqDiff, beq_eq_false_iff_ne, beq_iff_eq, decide_eq_decide, ne_eq, eq_self, true_and, and_true, and_self, and_false, false_and, Bool.not_true, Bool.not_false, Bool.false_eq_true, Bool.true_eq_false, false_implies, true_implies, implies_true, imp_false, not_true, not_false_eq_true, decide_eq_true_eq, decide_eq_false_iff_not, Bool.not_eq_true', Bool.not_eq_false', Bool.and_eq_true, Classical.not_not, decide_true, decide_false, Bool.and_true, Bool.true_and, if_true, if_false, Ob_iff]

theorem sposts_known : Known Tryd.prog 7 spostsC := by
  refine known1I (nt := 110) (An := fun _ => plAn) (labs := []) (lit := true) (pl := true) (em := em_sposts) sh_sposts_le (by kernel_rfl) mixedT tyT_ok (.cons scost_known (.cons sposted_known (.cons spostsN_known .nil))) (.cons psnew_in (.cons psreach_in (.cons plines_in .nil))) Tryd.func7 (by kernel_rfl) (fun a => by kernel_rfl) (fun a => by rfl) (fun a ha => ?_)
  refine ⟨_, vc_sposts a, ?_⟩
  repeat' first | exact trivial | apply And.intro | apply Ob.mk
  all_goals decide

theorem rgB_no {l : List SV} {i : Nat} (h : rgB l i = false) : ∀ n, i ≤ n → rgB l n = false
  | 0, hn => by rw [Nat.le_zero.1 hn] at h; exact h
  | n + 1, hn => by
    rcases Nat.lt_or_ge i (n + 1) with h1 | h1
    · simp only [rgB]; rw [rgB_no h n (by omega)]; rfl
    · rw [show n + 1 = i by omega]; exact h
theorem lrg_known : Known Tryd.prog 10 lrgC := by
  refine known1 (nt := 30) (An := fun l => (rg_an l)) (labs := []) (lit := false) (em := em_lrg) sh_lrg_le (by kernel_rfl) mixedT tyT_ok .nil Tryd.func10 (by kernel_rfl) (fun a => by kernel_rfl) (fun a => by rfl) (fun l ha => ?_)
  replace ha : l.length ≤ 1000000000 := ha.out
  refine ⟨_, vc_lrg l, ?_⟩
  simp only [Int.reduceLE, Int.reduceLT, Int.reduceEq, Int.reduceNe, Nat.reduceLeDiff, Nat.reduceEqDiff, beq_eq_false_iff_ne, beq_iff_eq, decide_eq_decide, ne_eq, eq_self, true_and, and_true, and_self, and_false, false_and, Bool.not_true, Bool.not_false, Bool.false_eq_true, Bool.true_eq_false, false_implies, true_implies, implies_true, imp_false, not_true, not_false_eq_true, decide_eq_true_eq, decide_eq_false_iff_not, Bool.not_eq_true', Bool.not_eq_false', Bool.and_eq_true, Classical.not_not, decide_true, decide_false, Bool.and_true, Bool.true_and, if_true, if_false, Ob_iff]
  simp only [cl_eq]
  have no : ∀ i, i < l.length → (rightB (cl l i 0) && rightB (cl l i 1)) = false → rgB l l.length = false := fun i hi h => rgB_no (i := i + 1) (by simp only [rgB, h]; simp) _ (by omega)
  refine ⟨⟨0, rfl, by omega, by omega, rfl⟩, fun i hi => ⟨fun hlt => ⟨by omega, fun h => ?_, fun h1 => ⟨fun h => ?_, fun h2 => ⟨fun h => ?_, fun h3 => ⟨fun h => ?_, fun h4 => ⟨i + 1, by rw [wrapI (by omega)]; omega, ⟨by omega, by omega, ?_⟩, by omega⟩⟩⟩⟩⟩, fun hge => ?_⟩⟩
  · exact no i (by omega) (by rw [rightB_no.2 (by omega)]; rfl)
  · exact no i (by omega) (by rw [rightB_no.2 (by omega)]; rfl)
  · exact no i (by omega) (by rw [Bool.and_eq_false_iff]; exact .inr (rightB_no.2 (by omega)))
  · exact no i (by omega) (by rw [Bool.and_eq_false_iff]; exact .inr (rightB_no.2 (by omega)))
  · simp only [rgB]; rw [hi.2.2, rightB_iff.2 (by omega), rightB_iff.2 (by omega)]; rfl
  · rw [show l.length = i by omega]; exact hi.2.2

end Go.Rx
