/- Whatever is due, time after time, what was posted in all is what is due last: of any number of contributions and any rows. -/
import Derived.Test.YthhoimfigekagaaDoorSh2
import Derived.Test.YthhoimfigekagaaDoorLld
import Derived.Test.YthhoimfigekagaaDoorRows
import Derived.Test.YthhoimfigekagaaDoorCards
import Derived.Test.YthhoimfigekagaaDoorTie
namespace Go.Proofs.YthhoimfigekagaaDoor
open Go.Rx

theorem shareReach_ok : ∀ us, argsWf [(false, [.int .i64]), (false, [.sl [.sl [.int .i64, .int .i64]]])] us → FnOK Tryd.prog 4 us (.bool true) := by
  intro us h
  obtain ⟨c0, vs0, rfl, h0, e0⟩ := h
  obtain ⟨w1, z1, rfl, k1, h0_1⟩ := wfKs_cons h0
  obtain ⟨n, rfl, p1⟩ := wfK_int k1
  cases wfKs_nil h0_1
  obtain ⟨c1, vs1, rfl, h1, e1⟩ := e0
  obtain ⟨w2, z2, rfl, k2, h1_2⟩ := wfKs_cons h1
  obtain ⟨L, rfl, p2⟩ := wfL_of k2
  cases wfKs_nil h1_2
  have h2 : _ = [] := e1
  subst h2
  exact Known.at lreach_known (a := (n, L)) rfl rfl ⟨⟨p1, p2⟩⟩

theorem shareReach_tab : ∀ w, laidMetH Tryd.prog Rows.shareReachRow.laid w → laidI.ok w := by
  intro w h
  have h : laidMetH Tryd.prog [("math/bits.deBruijn32tab", Rows.laid_math_bits_deBruijn32tab), ("math/bits.deBruijn64tab", Rows.laid_math_bits_deBruijn64tab), ("internal/strconv.uint64pow10", Rows.laid_internal_strconv_uint64pow10)] w := h
  rw [MakeChecks.laidMetH_plain _ _ _ (by kernel_rfl)] at h
  have h := laid_tail h
  have h := laid_tail h
  exact Lib.tabIs_of_head (zs := Lib.pow10Tab) (k := .u64) (g := 0) (t := 99) (e := 81) (n := 20) (by kernel_rfl) (by kernel_rfl) (by kernel_rfl) (by kernel_rfl) (by kernel_rfl) (by kernel_rfl) h

theorem shareReach_met (os : Os) (args : Array Value) : laidMetH Tryd.prog Rows.shareReachRow.laid ((World.doorLaid Tryd.prog 400 os).forCall (fun _ _ => 0) ⟨#[], args, []⟩).memory :=
  laidMetH_of_parts3 (fuel := 8) (laidMet_of_run' 8 (by kernel_rfl) (by kernel_rfl)) (by kernel_rfl) (by kernel_rfl)

set_option maxRecDepth 100000 in
theorem shareReach_lifted (os : Os) (started : os.Started) (H : Type) (enc : TypeId × Value → H) :
    ReturnsInHanded {} Tryd.checked os 4 .any (fun w args => (Rows.shareReachSpec.pre enc Tryd.prog Tryd.f4 Rows.shareReachRow.domain false w args ∧ laidMetH Tryd.prog Rows.shareReachRow.laid w) ∧ sizedMet enc Tryd.prog Tryd.f4 (OpenSpec.ofChange Rows.shareReachSpec) false w args) (Rows.shareReachSpec.post enc Tryd.prog Tryd.f4 false true false false) :=
  law_lifted_laid (C := Tryd.checked) (tks := [(false, [.int .i64]), (false, [.sl [.sl [.int .i64, .int .i64]]])]) (hL := laidI) shareReach_tab 8 4 ownT started (by kernel_rfl) Tryd.func4 laidT (by kernel_rfl) (by kernel_rfl) (by kernel_rfl) rfl
    (fun ds h => by match ds, h with | [_, _], _ => exact ⟨rfl, rfl, rfl⟩)
    (ChangeSpec.witness_shaped (enc := enc) (C := Tryd.checked) (os := os) (X := fun w _ => laidMetH Tryd.prog Rows.shareReachRow.laid w) false (World.doorLaid Tryd.prog 400 os) #[.int .i64 0, .slice none 0 0] 8 rfl (World.shaped_of_RefB (by kernel_rfl) (by kernel_rfl)) (by kernel_rfl) (by kernel_rfl) (by kernel_rfl) (shareReach_met os _)) shareReach_ok

theorem shareReach_row_holds : Rows.ShareReachSaid :=
  OpenClaim.holds_of_wide 4 Tryd.f4 rfl rfl rfl rfl rfl rfl rfl ⟨rfl, rfl, rfl, rfl, rfl⟩ rfl rfl rfl rfl rfl (by kernel_rfl) Tryd.func4 (by kernel_rfl)
    (of_decide_eq_true (by kernel_rfl)) (by unfold Func.isWrapper; rw [if_neg (by decide +kernel)]; exact ⟨rfl, rfl⟩)
    (fun os started H enc _ => shareReach_lifted os started H enc)

theorem shareReach_holds : Rows.ShareReachCardSaid :=
  Claim7.holds_tied_plain_at .later [] [.data, .data, .data] true (true, "294df81526275856a9dc3acbeede4c596dd44ea68760ddaf5c79499f23109d3e") false
    shareReach_row_holds (fun _ h => by cases h) (by kernel_rfl) (fun _ h => by cases h) shareReach_row_tie rfl ⟨rfl, rfl⟩ (by kernel_rfl) rfl
    (fun f fn hf hfn => by
      obtain rfl : f = 4 := Option.some.inj ((show Tryd.prog.funcNamed "stipend/stipendlaw16.ShareReach" = some 4 by kernel_rfl).symm.trans hf) |>.symm
      obtain rfl : fn = Tryd.f4 := (Option.some.inj (Tryd.func4.symm.trans hfn)).symm
      exact ⟨by kernel_rfl, fun j t ht => by
        rw [show Tryd.f4.params = #[3, 32] from by kernel_rfl] at ht
        have hm : t ∈ [3, 32] := by simpa using Array.mem_of_getElem? ht
        have hall : ([3, 32].all fun u => !Tryd.prog.wantsStandIn u) = true := by kernel_rfl
        exact (show Tryd.prog.wantsStandIn t = false by simpa using List.all_eq_true.1 hall t hm)⟩)
    (by kernel_rfl)
end Go.Proofs.YthhoimfigekagaaDoor
