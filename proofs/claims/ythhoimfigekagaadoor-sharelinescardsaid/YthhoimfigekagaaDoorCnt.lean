/- Amounts: the statements' own first check, gone through as it is. -/
import Derived.Test.YthhoimfigekagaaDoorLibUC
namespace Go.Rx
open Go.Proofs
set_option linter.unusedSimpArgs false
set_option linter.unusedVariables false

def tr_pright : Tr := trOf 18 tyT [] true [] true (fun _ _ _ => plAn) [] Tryd.f27
theorem pright_in : InK Tryd.prog 27 tr_pright := inK1 (by kernel_rfl) mixedT tyT_ok .nil .nil Tryd.func27 (by kernel_rfl)
def tr_pcheck : Tr := trOf 9 tyT [] true [(27, tr_pright)] true (fun _ _ _ => plAn) [] Tryd.f28
theorem pcheck_in : InK Tryd.prog 28 tr_pcheck := inK1 (by kernel_rfl) mixedT tyT_ok .nil (.cons pright_in .nil) Tryd.func28 (by kernel_rfl)
def tr_padd : Tr := trOf 17 tyT [] true [(27, tr_pright), (28, tr_pcheck)] true (fun _ _ _ => plAn) [] Tryd.f19
theorem padd_in : InK Tryd.prog 19 tr_padd := inK1 (by kernel_rfl) mixedT tyT_ok .nil (.cons pright_in (.cons pcheck_in .nil)) Tryd.func19 (by kernel_rfl)
def tr_pabs : Tr := trOf 12 tyT [] true [] true (fun _ _ _ => plAn) [] Tryd.f38
theorem pabs_in : InK Tryd.prog 38 tr_pabs := inK1 (by kernel_rfl) mixedT tyT_ok .nil .nil Tryd.func38 (by kernel_rfl)
def tr_pdigit : Tr := trOf 9 tyT [] true [] true (fun _ _ _ => plAn) [] Tryd.f32
theorem pdigit_in : InK Tryd.prog 32 tr_pdigit := inK1 (by kernel_rfl) mixedT tyT_ok .nil .nil Tryd.func32 (by kernel_rfl)
def tr_pwhole : Tr := trOf 38 tyT [] true [(32, tr_pdigit)] true (fun _ _ _ => plAn) [] Tryd.f33
theorem pwhole_in : InK Tryd.prog 33 tr_pwhole := inK1 (by kernel_rfl) mixedT tyT_ok .nil (.cons pdigit_in .nil) Tryd.func33 (by kernel_rfl)
def tr_pdigits : Tr := trOf 15 tyT [] true [(32, tr_pdigit)] true (fun _ _ _ => plAn) [] Tryd.f34
theorem pdigits_in : InK Tryd.prog 34 tr_pdigits := inK1 (by kernel_rfl) mixedT tyT_ok .nil (.cons pdigit_in .nil) Tryd.func34 (by kernel_rfl)
def tr_pparse : Tr := trOf 110 tyT [] true [(32, tr_pdigit), (33, tr_pwhole), (34, tr_pdigits), (28, tr_pcheck)] true (fun _ _ _ => plAn) [] Tryd.f23
theorem pparse_in : InK Tryd.prog 23 tr_pparse := inK1 (by kernel_rfl) mixedT tyT_ok .nil (.cons pdigit_in (.cons pwhole_in (.cons pdigits_in (.cons pcheck_in .nil)))) Tryd.func23 (by kernel_rfl)
def tr_ptext : Tr := trOf 26 tyT [(39, fmtuC)] true [(38, tr_pabs)] true (fun _ _ _ => plAn) [] Tryd.f29
theorem ptext_in : InK Tryd.prog 29 tr_ptext := inK1 (by kernel_rfl) mixedT tyT_ok (.cons fmtu_known .nil) (.cons pabs_in .nil) Tryd.func29 (by kernel_rfl)











end Go.Rx
