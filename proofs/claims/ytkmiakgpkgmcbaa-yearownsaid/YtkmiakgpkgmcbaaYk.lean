/- A year: the statements' own first check, gone through as it is. -/
import Derived.Test.YtkmiakgpkgmcbaaYr3
namespace Go.Rx
open Go.Proofs
set_option linter.unusedSimpArgs false
set_option linter.unusedVariables false

def tr_yknew : Tr := trOf 19 tyT [(31, ssumC)] true [] true (fun _ _ _ => plAn) [] Try.f11
theorem yknew_in : InK Try.prog 11 tr_yknew := inK1 (by kernel_rfl) mixedT tyT_ok (.cons ssum_known .nil) .nil Try.func11 (by kernel_rfl)
def tr_ykpost : Tr := trOf 42 tyT [(13, ytryC), (34, copiedC)] true [] true (fun _ _ _ => plAn) [] Try.f15
theorem ykpost_in : InK Try.prog 15 tr_ykpost := inK1 (by kernel_rfl) mixedT tyT_ok (.cons ytry_known (.cons copied_known .nil)) .nil Try.func15 (by kernel_rfl)
def tr_ykclone : Tr := trOf 13 tyT [(21, yslipsC), (18, ytotalsC)] true [] true (fun _ _ _ => plAn) [] Try.f24
theorem ykclone_in : InK Try.prog 24 tr_ykclone := inK1 (by kernel_rfl) mixedT tyT_ok (.cons yslips_known (.cons ytotals_known .nil)) .nil Try.func24 (by kernel_rfl)
def tr_ykfirst : Tr := trOf 7 tyT [] true [] true (fun _ _ _ => plAn) [] Try.f25
theorem ykfirst_in : InK Try.prog 25 tr_ykfirst := inK1 (by kernel_rfl) mixedT tyT_ok .nil .nil Try.func25 (by kernel_rfl)
def sh_ykeeps : List SV → Option (Unit)
  | [] => some ()
  | _ => none
def em_ykeeps : Unit → List SV := fun _ => []
theorem sh_ykeeps_le : ∀ us a, sh_ykeeps us = some a → leL us (em_ykeeps a) := by
  intro us a h
  unfold sh_ykeeps at h
  split at h
  · cases h; exact .nil
  · cases h
def ykeepsC : Con := conOf sh_ykeeps (fun _ => none) (fun _ => .bool true)
set_option maxRecDepth 100000 in
theorem vc_ykeeps (_u : Unit) : (wpF ⟨113, tyT, [(18, ytotalsC), (16, yslipC), (20, yuptoC), (19, ycountC), (14, ysameC), (21, yslipsC)], true, 0, [(11, tr_yknew), (15, tr_ykpost), (24, tr_ykclone), (25, tr_ykfirst)], true⟩ (plAn) [] Try.f7 (em_ykeeps _u) (.bool true)) = ((Ob (((in64 (1 : Int)) ∧ ((0 : Nat) ≤ (1000000000 : Nat)))) ∧ (Ob (((slOK []) ∧ ((in64 (1 : Int)) ∧ (((1 : Nat) ≤ (1000000000 : Nat)) ∧ (((1 : Nat) ≤ (1000000000 : Nat)) ∧ ((1 : Nat) ≤ (1000000000 : Nat))))))) ∧ (Ob ((((0 : Int) = (0 : Int)) ∧ ((0 : Int) = (0 : Int)))) ∧ (Ob ((((1 : Nat) ≤ (1000000000 : Nat)) ∧ ((1 : Nat) ≤ (1000000000 : Nat)))) ∧ (Ob ((((112 : Nat) ≤ (1099511627776 : Nat)) ∧ ((1 : Nat) ≤ (1099511627776 : Nat)))) ∧ (Ob (((slOK [SV.agg [SV.int IntKind.i64 (1 : Int), SV.int IntKind.i64 (1000 : Int), SV.int IntKind.i64 (1000 : Int), SV.int IntKind.i64 (900 : Int), SV.int IntKind.i64 (100 : Int), SV.int IntKind.i64 (7 : Int), SV.sl shK [SV.agg [SV.int IntKind.i64 (50 : Int), SV.int IntKind.i64 (60 : Int)]], SV.int IntKind.i64 (850 : Int), SV.sl tkK [SV.agg [SV.int IntKind.i64 (1 : Int), SV.int IntKind.i64 (0 : Int), SV.int IntKind.i64 (50 : Int), SV.int IntKind.i64 (50 : Int), SV.int IntKind.i64 (50 : Int), SV.int IntKind.i64 (0 : Int)]], SV.int IntKind.i64 (800 : Int)]]) ∧ ((in64 (1 : Int)) ∧ (((1 : Nat) ≤ (1000000000 : Nat)) ∧ (((1 : Nat) ≤ (1000000000 : Nat)) ∧ ((1 : Nat) ≤ (1000000000 : Nat))))))) ∧ (Ob (((1 : Nat) ≤ (1000000000 : Nat))) ∧ (Ob ((slOK [SV.agg [SV.int IntKind.i64 (1 : Int), SV.int IntKind.i64 (1000 : Int), SV.int IntKind.i64 (1000 : Int), SV.int IntKind.i64 (900 : Int), SV.int IntKind.i64 (100 : Int), SV.int IntKind.i64 (7 : Int), SV.sl shK [SV.agg [SV.int IntKind.i64 (50 : Int), SV.int IntKind.i64 (60 : Int)]], SV.int IntKind.i64 (850 : Int), SV.sl tkK [SV.agg [SV.int IntKind.i64 (1 : Int), SV.int IntKind.i64 (0 : Int), SV.int IntKind.i64 (50 : Int), SV.int IntKind.i64 (50 : Int), SV.int IntKind.i64 (50 : Int), SV.int IntKind.i64 (0 : Int)]], SV.int IntKind.i64 (800 : Int)]])) ∧ (Ob (((1 : Nat) ≤ (1000000000 : Nat))) ∧ (Ob (((1 : Nat) ≤ (1000000000 : Nat))) ∧ (Ob (((slOK [SV.agg [SV.int IntKind.i64 (1 : Int), SV.int IntKind.i64 (1000 : Int), SV.int IntKind.i64 (1000 : Int), SV.int IntKind.i64 (900 : Int), SV.int IntKind.i64 (100 : Int), SV.int IntKind.i64 (7 : Int), SV.sl shK [SV.agg [SV.int IntKind.i64 (50 : Int), SV.int IntKind.i64 (60 : Int)]], SV.int IntKind.i64 (850 : Int), SV.sl tkK [SV.agg [SV.int IntKind.i64 (1 : Int), SV.int IntKind.i64 (0 : Int), SV.int IntKind.i64 (50 : Int), SV.int IntKind.i64 (50 : Int), SV.int IntKind.i64 (50 : Int), SV.int IntKind.i64 (0 : Int)]], SV.int IntKind.i64 (800 : Int)]]) ∧ (in64 (1 : Int)))) ∧ (Ob (((slOK [SV.agg [SV.int IntKind.i64 (1 : Int), SV.int IntKind.i64 (1000 : Int), SV.int IntKind.i64 (1000 : Int), SV.int IntKind.i64 (900 : Int), SV.int IntKind.i64 (100 : Int), SV.int IntKind.i64 (7 : Int), SV.sl shK [SV.agg [SV.int IntKind.i64 (50 : Int), SV.int IntKind.i64 (60 : Int)]], SV.int IntKind.i64 (850 : Int), SV.sl tkK [SV.agg [SV.int IntKind.i64 (1 : Int), SV.int IntKind.i64 (0 : Int), SV.int IntKind.i64 (50 : Int), SV.int IntKind.i64 (50 : Int), SV.int IntKind.i64 (50 : Int), SV.int IntKind.i64 (0 : Int)]], SV.int IntKind.i64 (800 : Int)]]) ∧ ((in64 (1 : Int)) ∧ (in64 (1 : Int))))) ∧ (Ob ((((0 : Int) ≤ (0 : Int)) ∧ ((0 : Int) < (1 : Int)))) ∧ (Ob ((((1 : Nat) ≤ (1000000000 : Nat)) ∧ ((1 : Nat) ≤ (1000000000 : Nat)))) ∧ (Ob ((((1 : Nat) ≤ (1000000000 : Nat)) ∧ ((1 : Nat) ≤ (1000000000 : Nat)))) ∧ (Ob ((slOK [SV.agg [SV.int IntKind.i64 (1 : Int), SV.int IntKind.i64 (1000 : Int), SV.int IntKind.i64 (1000 : Int), SV.int IntKind.i64 (900 : Int), SV.int IntKind.i64 (100 : Int), SV.int IntKind.i64 (7 : Int), SV.sl shK [SV.agg [SV.int IntKind.i64 (50 : Int), SV.int IntKind.i64 (60 : Int)]], SV.int IntKind.i64 (850 : Int), SV.sl tkK [SV.agg [SV.int IntKind.i64 (1 : Int), SV.int IntKind.i64 (0 : Int), SV.int IntKind.i64 (50 : Int), SV.int IntKind.i64 (50 : Int), SV.int IntKind.i64 (50 : Int), SV.int IntKind.i64 (0 : Int)]], SV.int IntKind.i64 (800 : Int)]])) ∧ ((true = true) ∧ (True))))))))))))))))))) := by kernel_rfl
theorem ykeeps_known : Known Try.prog 7 ykeepsC := by
  refine known1I (nt := 113) (An := fun _ => plAn) (labs := []) (lit := true) (pl := true) (em := em_ykeeps) sh_ykeeps_le (by kernel_rfl) mixedT tyT_ok (.cons ytotals_known (.cons yslip_known (.cons yupto_known (.cons ycount_known (.cons ysame_known (.cons yslips_known .nil)))))) (.cons yknew_in (.cons ykpost_in (.cons ykclone_in (.cons ykfirst_in .nil)))) Try.func7 (by kernel_rfl) (fun a => by kernel_rfl) (fun a => by rfl) (fun a ha => ?_)
  refine ⟨_, vc_ykeeps a, ?_⟩
  repeat' first | exact trivial | apply And.intro | apply Ob.mk
  all_goals decide

end Go.Rx

