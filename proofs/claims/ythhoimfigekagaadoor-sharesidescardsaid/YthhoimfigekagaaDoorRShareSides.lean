/- Both sides of all contributions together are each side's sum, and the cost is the cash and the employer's side: of any row and any cash. -/
import Derived.Test.YthhoimfigekagaaDoorSh2
import Derived.Test.YthhoimfigekagaaDoorLld
import Derived.Test.YthhoimfigekagaaDoorRows
import Derived.Test.YthhoimfigekagaaDoorCards
import Derived.Test.YthhoimfigekagaaDoorTie
namespace Go.Proofs.YthhoimfigekagaaDoor
open Go.Rx

theorem shareSides_ok : ∀ us, argsWf [(false, [.sl [.int .i64, .int .i64]]), (false, [.int .i64])] us → FnOK Tryd.prog 5 us (.bool true) := by
  intro us h
  obtain ⟨c0, vs0, rfl, h0, e0⟩ := h
  obtain ⟨w1, z1, rfl, k1, h0_1⟩ := wfKs_cons h0
  obtain ⟨l, rfl, p1⟩ := wfL_of k1
  cases wfKs_nil h0_1
  obtain ⟨c1, vs1, rfl, h1, e1⟩ := e0
  obtain ⟨w2, z2, rfl, k2, h1_2⟩ := wfKs_cons h1
  obtain ⟨c, rfl, p2⟩ := wfK_int k2
  cases wfKs_nil h1_2
  have h2 : _ = [] := e1
  subst h2
  exact Known.at lsides_known (a := (l, c)) rfl rfl ⟨⟨p1, p2⟩⟩

theorem shareSides_tab : ∀ w, laidMetH Tryd.prog Rows.shareSidesRow.laid w → laidI.ok w := by
  intro w h
  have h : laidMetH Tryd.prog [("math/bits.deBruijn32tab", Rows.laid_math_bits_deBruijn32tab), ("math/bits.deBruijn64tab", Rows.laid_math_bits_deBruijn64tab), ("internal/strconv.uint64pow10", Rows.laid_internal_strconv_uint64pow10)] w := h
  rw [MakeChecks.laidMetH_plain _ _ _ (by kernel_rfl)] at h
  have h := laid_tail h
  have h := laid_tail h
  exact Lib.tabIs_of_head (zs := Lib.pow10Tab) (k := .u64) (g := 0) (t := 99) (e := 81) (n := 20) (by kernel_rfl) (by kernel_rfl) (by kernel_rfl) (by kernel_rfl) (by kernel_rfl) (by kernel_rfl) h

theorem shareSides_met (os : Os) (args : Array Value) : laidMetH Tryd.prog Rows.shareSidesRow.laid ((World.doorLaid Tryd.prog 400 os).forCall (fun _ _ => 0) ⟨#[], args, []⟩).memory :=
  laidMetH_of_parts3 (fuel := 8) (laidMet_of_run' 8 (by kernel_rfl) (by kernel_rfl)) (by kernel_rfl) (by kernel_rfl)

set_option maxRecDepth 100000 in
theorem shareSides_lifted (os : Os) (started : os.Started) (H : Type) (enc : TypeId × Value → H) :
    ReturnsInHanded {} Tryd.checked os 5 .any (fun w args => (Rows.shareSidesSpec.pre enc Tryd.prog Tryd.f5 Rows.shareSidesRow.domain false w args ∧ laidMetH Tryd.prog Rows.shareSidesRow.laid w) ∧ sizedMet enc Tryd.prog Tryd.f5 (OpenSpec.ofChange Rows.shareSidesSpec) false w args) (Rows.shareSidesSpec.post enc Tryd.prog Tryd.f5 false true false false) :=
  law_lifted_laid (C := Tryd.checked) (tks := [(false, [.sl [.int .i64, .int .i64]]), (false, [.int .i64])]) (hL := laidI) shareSides_tab 8 4 ownT started (by kernel_rfl) Tryd.func5 laidT (by kernel_rfl) (by kernel_rfl) (by kernel_rfl) rfl
    (fun ds h => by match ds, h with | [_, _], _ => exact ⟨rfl, rfl, rfl⟩)
    (ChangeSpec.witness_shaped (enc := enc) (C := Tryd.checked) (os := os) (X := fun w _ => laidMetH Tryd.prog Rows.shareSidesRow.laid w) false (World.doorLaid Tryd.prog 400 os) #[.slice none 0 0, .int .i64 0] 8 rfl (World.shaped_of_RefB (by kernel_rfl) (by kernel_rfl)) (by kernel_rfl) (by kernel_rfl) (by kernel_rfl) (shareSides_met os _)) shareSides_ok

theorem shareSides_row_holds : Rows.ShareSidesSaid :=
  OpenClaim.holds_of_wide 5 Tryd.f5 rfl rfl rfl rfl rfl rfl rfl ⟨rfl, rfl, rfl, rfl, rfl⟩ rfl rfl rfl rfl rfl (by kernel_rfl) Tryd.func5 (by kernel_rfl)
    (of_decide_eq_true (by kernel_rfl)) (by unfold Func.isWrapper; rw [if_neg (by decide +kernel)]; exact ⟨rfl, rfl⟩)
    (fun os started H enc _ => shareSides_lifted os started H enc)

theorem shareSides_holds : Rows.ShareSidesCardSaid :=
  Claim7.holds_tied_plain_at .later [] [.data, .data, .data] true (true, "294df81526275856a9dc3acbeede4c596dd44ea68760ddaf5c79499f23109d3e") false
    shareSides_row_holds (fun _ h => by cases h) (by kernel_rfl) (fun _ h => by cases h) shareSides_row_tie rfl ⟨rfl, rfl⟩ (by kernel_rfl) rfl
    (fun f fn hf hfn => by
      obtain rfl : f = 5 := Option.some.inj ((show Tryd.prog.funcNamed "stipend/stipendlaw16.ShareSides" = some 5 by kernel_rfl).symm.trans hf) |>.symm
      obtain rfl : fn = Tryd.f5 := (Option.some.inj (Tryd.func5.symm.trans hfn)).symm
      exact ⟨by kernel_rfl, fun j t ht => by
        rw [show Tryd.f5.params = #[23, 2] from by kernel_rfl] at ht
        have hm : t ∈ [23, 2] := by simpa using Array.mem_of_getElem? ht
        have hall : ([23, 2].all fun u => !Tryd.prog.wantsStandIn u) = true := by kernel_rfl
        exact (show Tryd.prog.wantsStandIn t = false by simpa using List.all_eq_true.1 hall t hm)⟩)
    (by kernel_rfl)
end Go.Proofs.YthhoimfigekagaaDoor
