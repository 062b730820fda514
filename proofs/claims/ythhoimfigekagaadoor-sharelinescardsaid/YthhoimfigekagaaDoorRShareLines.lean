/- Contributions are told in lines of three words: the name, and both sides, which are read as these again: of any table and any row. -/
import Derived.Test.YthhoimfigekagaaDoorSl
import Derived.Test.YthhoimfigekagaaDoorLld
import Derived.Test.YthhoimfigekagaaDoorRows
import Derived.Test.YthhoimfigekagaaDoorCards
import Derived.Test.YthhoimfigekagaaDoorTie
namespace Go.Proofs.YthhoimfigekagaaDoor
open Go.Rx

theorem shareLines_ok : ∀ us, argsWf [(true, [.sl [.sl [.int .i64, .int .i64, .int .i64]], .sl [.str, .int .i64, .sl [.int .i64, .int .i64, .int .i64], .int .i64, .int .i64, .int .i64], .sl [.str, .int .i64, .int .i64, .int .i64], .int .i64, .int .i64]), (false, [.sl [.int .i64, .int .i64]])] us → FnOK Tryd.prog 6 us (.bool true) := by
  intro us h
  obtain ⟨c0, vs0, rfl, h0, e0⟩ := h
  obtain ⟨w1, z1, rfl, k1, h0_1⟩ := wfKs_cons h0
  obtain ⟨S, rfl, p1⟩ := wfL_of k1
  obtain ⟨w2, z2, rfl, k2, h0_1_2⟩ := wfKs_cons h0_1
  obtain ⟨C, rfl, p2⟩ := wfL_of k2
  obtain ⟨w3, z3, rfl, k3, h0_1_2_3⟩ := wfKs_cons h0_1_2
  obtain ⟨K, rfl, p3⟩ := wfL_of k3
  obtain ⟨w4, z4, rfl, k4, h0_1_2_3_4⟩ := wfKs_cons h0_1_2_3
  obtain ⟨m, rfl, p4⟩ := wfK_int k4
  obtain ⟨w5, z5, rfl, k5, h0_1_2_3_4_5⟩ := wfKs_cons h0_1_2_3_4
  obtain ⟨r, rfl, p5⟩ := wfK_int k5
  cases wfKs_nil h0_1_2_3_4_5
  obtain ⟨c1, vs1, rfl, h1, e1⟩ := e0
  obtain ⟨w6, z6, rfl, k6, h1_6⟩ := wfKs_cons h1
  obtain ⟨R, rfl, p6⟩ := wfL_of k6
  cases wfKs_nil h1_6
  have h2 : _ = [] := e1
  subst h2
  exact Known.at llines_known (a := (S, C, K, m, r, R)) rfl rfl ⟨⟨p1, p2, p3, p4, p5, p6⟩⟩

theorem shareLines_tab : ∀ w, laidMetH Tryd.prog Rows.shareLinesRow.laid w → laidI.ok w := by
  intro w h
  have h : laidMetH Tryd.prog [("math/bits.deBruijn32tab", Rows.laid_math_bits_deBruijn32tab), ("math/bits.deBruijn64tab", Rows.laid_math_bits_deBruijn64tab), ("internal/strconv.uint64pow10", Rows.laid_internal_strconv_uint64pow10)] w := h
  rw [MakeChecks.laidMetH_plain _ _ _ (by kernel_rfl)] at h
  have h := laid_tail h
  have h := laid_tail h
  exact Lib.tabIs_of_head (zs := Lib.pow10Tab) (k := .u64) (g := 0) (t := 99) (e := 81) (n := 20) (by kernel_rfl) (by kernel_rfl) (by kernel_rfl) (by kernel_rfl) (by kernel_rfl) (by kernel_rfl) h

theorem shareLines_met (os : Os) (args : Array Value) : laidMetH Tryd.prog Rows.shareLinesRow.laid ((World.doorLaid Tryd.prog 400 os).forCall (fun _ _ => 0) ⟨#[], args, []⟩).memory :=
  laidMetH_of_parts3 (fuel := 8) (laidMet_of_run' 8 (by kernel_rfl) (by kernel_rfl)) (by kernel_rfl) (by kernel_rfl)

set_option maxRecDepth 100000 in
theorem shareLines_lifted (os : Os) (started : os.Started) (H : Type) (enc : TypeId × Value → H) :
    ReturnsInHanded {} Tryd.checked os 6 .any (fun w args => (Rows.shareLinesSpec.pre enc Tryd.prog Tryd.f6 Rows.shareLinesRow.domain false w args ∧ laidMetH Tryd.prog Rows.shareLinesRow.laid w) ∧ sizedMet enc Tryd.prog Tryd.f6 (OpenSpec.ofChange Rows.shareLinesSpec) false w args) (Rows.shareLinesSpec.post enc Tryd.prog Tryd.f6 false true false false) :=
  law_lifted_laid (C := Tryd.checked) (tks := [(true, [.sl [.sl [.int .i64, .int .i64, .int .i64]], .sl [.str, .int .i64, .sl [.int .i64, .int .i64, .int .i64], .int .i64, .int .i64, .int .i64], .sl [.str, .int .i64, .int .i64, .int .i64], .int .i64, .int .i64]), (false, [.sl [.int .i64, .int .i64]])]) (hL := laidI) shareLines_tab 8 4 ownT started (by kernel_rfl) Tryd.func6 laidT (by kernel_rfl) (by kernel_rfl) (by kernel_rfl) rfl
    (fun ds h => by match ds, h with | [_, _], _ => exact ⟨rfl, rfl, rfl⟩)
    (ChangeSpec.witness_shaped (enc := enc) (C := Tryd.checked) (os := os) (X := fun w _ => laidMetH Tryd.prog Rows.shareLinesRow.laid w) false (World.doorLaid Tryd.prog 400 os) #[(.agg #[.slice none 0 0, .slice none 0 0, .slice none 0 0, .int .i64 0, .int .i64 0]), .slice none 0 0] 8 rfl (World.shaped_of_RefB (by kernel_rfl) (by kernel_rfl)) (by kernel_rfl) (by kernel_rfl) (by kernel_rfl) (shareLines_met os _)) shareLines_ok

theorem shareLines_row_holds : Rows.ShareLinesSaid :=
  OpenClaim.holds_of_wide 6 Tryd.f6 rfl rfl rfl rfl rfl rfl rfl ⟨rfl, rfl, rfl, rfl, rfl⟩ rfl rfl rfl rfl rfl (by kernel_rfl) Tryd.func6 (by kernel_rfl)
    (of_decide_eq_true (by kernel_rfl)) (by unfold Func.isWrapper; rw [if_neg (by decide +kernel)]; exact ⟨rfl, rfl⟩)
    (fun os started H enc _ => shareLines_lifted os started H enc)

theorem shareLines_holds : Rows.ShareLinesCardSaid :=
  Claim7.holds_tied_plain_at .later [] [.data, .data, .data] true (true, "294df81526275856a9dc3acbeede4c596dd44ea68760ddaf5c79499f23109d3e") false
    shareLines_row_holds (fun _ h => by cases h) (by kernel_rfl) (fun _ h => by cases h) shareLines_row_tie rfl ⟨rfl, rfl⟩ (by kernel_rfl) rfl
    (fun f fn hf hfn => by
      obtain rfl : f = 6 := Option.some.inj ((show Tryd.prog.funcNamed "stipend/stipendlaw16.ShareLines" = some 6 by kernel_rfl).symm.trans hf) |>.symm
      obtain rfl : fn = Tryd.f6 := (Option.some.inj (Tryd.func6.symm.trans hfn)).symm
      exact ⟨by kernel_rfl, fun j t ht => by
        rw [show Tryd.f6.params = #[51, 23] from by kernel_rfl] at ht
        have hm : t ∈ [51, 23] := by simpa using Array.mem_of_getElem? ht
        have hall : ([51, 23].all fun u => !Tryd.prog.wantsStandIn u) = true := by kernel_rfl
        exact (show Tryd.prog.wantsStandIn t = false by simpa using List.all_eq_true.1 hall t hm)⟩)
    (by kernel_rfl)
end Go.Proofs.YthhoimfigekagaaDoor
