/- CodeForms: for every scheme, kind and text of digits the law's function answers true; the package-level variables start as the program's text lays them. -/
import Derived.Test.YtnfngikfpajhgaaDoorCode8
import Derived.Test.YtnfngikfpajhgaaDoorLld
import Derived.Test.YtnfngikfpajhgaaDoorRows
import Derived.Test.YtnfngikfpajhgaaDoorCards
import Derived.Test.YtnfngikfpajhgaaDoorTie
namespace Go.Proofs.YtnfngikfpajhgaaDoor
open Go.Rx

theorem codeForms_ok : ∀ us, argsWf [(false, [.int .i64]), (false, [.int .i64]), (false, [.str])] us → FnOK Tryd.prog 5 us (.bool true) := by
  intro us h
  obtain ⟨c0, vs0, rfl, h0, e0⟩ := h
  obtain ⟨w1, z1, rfl, k1, h0_1⟩ := wfKs_cons h0
  obtain ⟨sc, rfl, p1⟩ := wfK_int k1
  cases wfKs_nil h0_1
  obtain ⟨c1, vs1, rfl, h1, e1⟩ := e0
  obtain ⟨w2, z2, rfl, k2, h1_2⟩ := wfKs_cons h1
  obtain ⟨k, rfl, p2⟩ := wfK_int k2
  cases wfKs_nil h1_2
  obtain ⟨c2, vs2, rfl, h2, e2⟩ := e1
  obtain ⟨w3, z3, rfl, k3, h2_3⟩ := wfKs_cons h2
  obtain ⟨ds, rfl, p3⟩ := wfK_str k3
  cases wfKs_nil h2_3
  have h2 : _ = [] := e2
  subst h2
  exact Known.at cforms_known (a := (sc, k, ds)) rfl rfl ⟨⟨p1, p2, p3⟩⟩

theorem codeForms_tab : ∀ w, laidMetH Tryd.prog Rows.codeFormsRow.laid w → laidI.ok w := by
  intro w h
  have h : laidMetH Tryd.prog [("math/bits.deBruijn32tab", Rows.laid_math_bits_deBruijn32tab), ("math/bits.deBruijn64tab", Rows.laid_math_bits_deBruijn64tab), ("internal/strconv.uint64pow10", Rows.laid_internal_strconv_uint64pow10)] w := h
  rw [MakeChecks.laidMetH_plain _ _ _ (by kernel_rfl)] at h
  have h := laid_tail h
  have h := laid_tail h
  exact Lib.tabIs_of_head (zs := Lib.pow10Tab) (k := .u64) (g := 0) (t := 83) (e := 74) (n := 20) (by kernel_rfl) (by kernel_rfl) (by kernel_rfl) (by kernel_rfl) (by kernel_rfl) (by kernel_rfl) h

theorem codeForms_met (os : Os) (args : Array Value) : laidMetH Tryd.prog Rows.codeFormsRow.laid ((World.doorLaid Tryd.prog 400 os).forCall (fun _ _ => 0) ⟨#[], args, []⟩).memory :=
  laidMetH_of_parts3 (fuel := 8) (laidMet_of_run' 8 (by kernel_rfl) (by kernel_rfl)) (by kernel_rfl) (by kernel_rfl)

set_option maxRecDepth 100000 in
theorem codeForms_lifted (os : Os) (started : os.Started) (H : Type) (enc : TypeId × Value → H) :
    ReturnsInHanded {} Tryd.checked os 5 .any (fun w args => (Rows.codeFormsSpec.pre enc Tryd.prog Tryd.f5 Rows.codeFormsRow.domain false w args ∧ laidMetH Tryd.prog Rows.codeFormsRow.laid w) ∧ sizedMet enc Tryd.prog Tryd.f5 (OpenSpec.ofChange Rows.codeFormsSpec) false w args) (Rows.codeFormsSpec.post enc Tryd.prog Tryd.f5 false true false false) :=
  law_lifted_laid (C := Tryd.checked) (tks := [(false, [.int .i64]), (false, [.int .i64]), (false, [.str])]) (hL := laidI) codeForms_tab 8 4 ownT started (by kernel_rfl) Tryd.func5 laidT (by kernel_rfl) (by kernel_rfl) (by kernel_rfl) rfl
    (fun ds h => by match ds, h with | [_, _, _], _ => exact ⟨rfl, rfl, rfl⟩)
    (ChangeSpec.witness_shaped (enc := enc) (C := Tryd.checked) (os := os) (X := fun w _ => laidMetH Tryd.prog Rows.codeFormsRow.laid w) false (World.doorLaid Tryd.prog 400 os) #[.int .i64 0, .int .i64 0, .string ⟨#[]⟩] 8 rfl (World.shaped_of_RefB (by kernel_rfl) (by kernel_rfl)) (by kernel_rfl) (by kernel_rfl) (by kernel_rfl) (codeForms_met os _)) codeForms_ok

theorem codeForms_row_holds : Rows.CodeFormsSaid :=
  OpenClaim.holds_of_wide 5 Tryd.f5 rfl rfl rfl rfl rfl rfl rfl ⟨rfl, rfl, rfl, rfl, rfl⟩ rfl rfl rfl rfl rfl (by kernel_rfl) Tryd.func5 (by kernel_rfl)
    (of_decide_eq_true (by kernel_rfl)) (by unfold Func.isWrapper; rw [if_neg (by decide +kernel)]; exact ⟨rfl, rfl⟩)
    (fun os started H enc _ => codeForms_lifted os started H enc)

theorem codeForms_holds : Rows.CodeFormsCardSaid :=
  Claim7.holds_tied_plain_at .later [] [.data, .data, .data] true (true, "7157016554c027cf92fddc4f45a9d557c1f810b226a0b66c1878cb44cf44f595") false
    codeForms_row_holds (fun _ h => by cases h) (by kernel_rfl) (fun _ h => by cases h) codeForms_row_tie rfl ⟨rfl, rfl⟩ (by kernel_rfl) rfl
    (fun f fn hf hfn => by
      obtain rfl : f = 5 := Option.some.inj ((show Tryd.prog.funcNamed "stipend/stipendlaw08.CodeForms" = some 5 by kernel_rfl).symm.trans hf) |>.symm
      obtain rfl : fn = Tryd.f5 := (Option.some.inj (Tryd.func5.symm.trans hfn)).symm
      exact ⟨by kernel_rfl, fun j t ht => by
        rw [show Tryd.f5.params = #[3, 3, 9] from by kernel_rfl] at ht
        have hm : t ∈ [3, 3, 9] := by simpa using Array.mem_of_getElem? ht
        have hall : ([3, 3, 9].all fun u => !Tryd.prog.wantsStandIn u) = true := by kernel_rfl
        exact (show Tryd.prog.wantsStandIn t = false by simpa using List.all_eq_true.1 hall t hm)⟩)
    (by kernel_rfl)
end Go.Proofs.YtnfngikfpajhgaaDoor
