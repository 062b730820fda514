/- Amounts: the statements' own first check, gone through as it is. -/
import Derived.Test.YtcehjhdgdgkkgaaDoorLibUC
namespace Go.Rx
open Go.Proofs
set_option linter.unusedSimpArgs false
set_option linter.unusedVariables false

def tr_pright : Tr := trOf 18 tyT [] true [] true (fun _ _ _ => plAn) [] Tryd.f34
theorem pright_in : InK Tryd.prog 34 tr_pright := inK1 (by kernel_rfl) mixedT tyT_ok .nil .nil Tryd.func34 (by kernel_rfl)
def tr_pcheck : Tr := trOf 9 tyT [] true [(34, tr_pright)] true (fun _ _ _ => plAn) [] Tryd.f47
theorem pcheck_in : InK Tryd.prog 47 tr_pcheck := inK1 (by kernel_rfl) mixedT tyT_ok .nil (.cons pright_in .nil) Tryd.func47 (by kernel_rfl)
def tr_padd : Tr := trOf 17 tyT [] true [(34, tr_pright), (47, tr_pcheck)] true (fun _ _ _ => plAn) [] Tryd.f36
theorem padd_in : InK Tryd.prog 36 tr_padd := inK1 (by kernel_rfl) mixedT tyT_ok .nil (.cons pright_in (.cons pcheck_in .nil)) Tryd.func36 (by kernel_rfl)
def tr_pabs : Tr := trOf 12 tyT [] true [] true (fun _ _ _ => plAn) [] Tryd.f73
theorem pabs_in : InK Tryd.prog 73 tr_pabs := inK1 (by kernel_rfl) mixedT tyT_ok .nil .nil Tryd.func73 (by kernel_rfl)
def tr_pdigit : Tr := trOf 9 tyT [] true [] true (fun _ _ _ => plAn) [] Tryd.f44
theorem pdigit_in : InK Tryd.prog 44 tr_pdigit := inK1 (by kernel_rfl) mixedT tyT_ok .nil .nil Tryd.func44 (by kernel_rfl)
def tr_pwhole : Tr := trOf 38 tyT [] true [(44, tr_pdigit)] true (fun _ _ _ => plAn) [] Tryd.f45
theorem pwhole_in : InK Tryd.prog 45 tr_pwhole := inK1 (by kernel_rfl) mixedT tyT_ok .nil (.cons pdigit_in .nil) Tryd.func45 (by kernel_rfl)
def tr_pdigits : Tr := trOf 15 tyT [] true [(44, tr_pdigit)] true (fun _ _ _ => plAn) [] Tryd.f46
theorem pdigits_in : InK Tryd.prog 46 tr_pdigits := inK1 (by kernel_rfl) mixedT tyT_ok .nil (.cons pdigit_in .nil) Tryd.func46 (by kernel_rfl)
def tr_pparse : Tr := trOf 110 tyT [] true [(44, tr_pdigit), (45, tr_pwhole), (46, tr_pdigits), (47, tr_pcheck)] true (fun _ _ _ => plAn) [] Tryd.f21
theorem pparse_in : InK Tryd.prog 21 tr_pparse := inK1 (by kernel_rfl) mixedT tyT_ok .nil (.cons pdigit_in (.cons pwhole_in (.cons pdigits_in (.cons pcheck_in .nil)))) Tryd.func21 (by kernel_rfl)
def tr_ptext : Tr := trOf 26 tyT [(74, fmtuC)] true [(73, tr_pabs)] true (fun _ _ _ => plAn) [] Tryd.f41
theorem ptext_in : InK Tryd.prog 41 tr_ptext := inK1 (by kernel_rfl) mixedT tyT_ok (.cons fmtu_known .nil) (.cons pabs_in .nil) Tryd.func41 (by kernel_rfl)
def tr_pmul : Tr := trOf 51 tyT [] true [] true (fun _ _ _ => plAn) [] Tryd.f85
theorem pmul_in : InK Tryd.prog 85 tr_pmul := inK1 (by kernel_rfl) mixedT tyT_ok .nil .nil Tryd.func85 (by kernel_rfl)










end Go.Rx
