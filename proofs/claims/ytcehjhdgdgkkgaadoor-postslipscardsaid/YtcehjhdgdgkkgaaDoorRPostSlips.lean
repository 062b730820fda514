/- PostSlips: IT COMES TO NOTHING: a payslip that hangs together is booked as entries that come to nothing together. Conditions: none beyond those of the given statement. -/
import Derived.Test.YtcehjhdgdgkkgaaDoorPs
import Derived.Test.YtcehjhdgdgkkgaaDoorLld
import Derived.Test.YtcehjhdgdgkkgaaDoorRows
import Derived.Test.YtcehjhdgdgkkgaaDoorCards
import Derived.Test.YtcehjhdgdgkkgaaDoorTie
namespace Go.Proofs.YtcehjhdgdgkkgaaDoor
open Go.Rx

theorem postSlips_ok : ∀ us, argsWf [(true, [.sl [.sl [.int .i64, .int .i64, .int .i64]], .sl [.str, .int .i64, .sl [.int .i64, .int .i64, .int .i64], .int .i64, .int .i64, .int .i64], .sl [.str, .int .i64, .int .i64, .int .i64], .int .i64, .int .i64]), (true, [.int .i64, .int .i64, .int .i64, .int .i64, .int .i64, .int .i64, .sl [.int .i64, .int .i64], .int .i64, .sl [.int .i64, .int .i64, .int .i64, .int .i64, .int .i64, .int .i64], .int .i64])] us → FnOK Tryd.prog 7 us (.bool true) := by
  intro us h
  obtain ⟨c0, vs0, rfl, h0, e0⟩ := h
  obtain ⟨w1, z1, rfl, k1, h0_1⟩ := wfKs_cons h0
  obtain ⟨S0, rfl, p1⟩ := wfL_of k1
  obtain ⟨w2, z2, rfl, k2, h0_1_2⟩ := wfKs_cons h0_1
  obtain ⟨C, rfl, p2⟩ := wfL_of k2
  obtain ⟨w3, z3, rfl, k3, h0_1_2_3⟩ := wfKs_cons h0_1_2
  obtain ⟨K, rfl, p3⟩ := wfL_of k3
  obtain ⟨w4, z4, rfl, k4, h0_1_2_3_4⟩ := wfKs_cons h0_1_2_3
  obtain ⟨m, rfl, p4⟩ := wfK_int k4
  obtain ⟨w5, z5, rfl, k5, h0_1_2_3_4_5⟩ := wfKs_cons h0_1_2_3_4
  obtain ⟨r, rfl, p5⟩ := wfK_int k5
  cases wfKs_nil h0_1_2_3_4_5
  obtain ⟨c1, vs1, rfl, h1, e1⟩ := e0
  obtain ⟨w6, z6, rfl, k6, h1_6⟩ := wfKs_cons h1
  obtain ⟨p, rfl, p6⟩ := wfK_int k6
  obtain ⟨w7, z7, rfl, k7, h1_6_7⟩ := wfKs_cons h1_6
  obtain ⟨c, rfl, p7⟩ := wfK_int k7
  obtain ⟨w8, z8, rfl, k8, h1_6_7_8⟩ := wfKs_cons h1_6_7
  obtain ⟨t, rfl, p8⟩ := wfK_int k8
  obtain ⟨w9, z9, rfl, k9, h1_6_7_8_9⟩ := wfKs_cons h1_6_7_8
  obtain ⟨s, rfl, p9⟩ := wfK_int k9
  obtain ⟨w10, z10, rfl, k10, h1_6_7_8_9_10⟩ := wfKs_cons h1_6_7_8_9
  obtain ⟨x, rfl, p10⟩ := wfK_int k10
  obtain ⟨w11, z11, rfl, k11, h1_6_7_8_9_10_11⟩ := wfKs_cons h1_6_7_8_9_10
  obtain ⟨h, rfl, p11⟩ := wfK_int k11
  obtain ⟨w12, z12, rfl, k12, h1_6_7_8_9_10_11_12⟩ := wfKs_cons h1_6_7_8_9_10_11
  obtain ⟨S, rfl, p12⟩ := wfL_of k12
  obtain ⟨w13, z13, rfl, k13, h1_6_7_8_9_10_11_12_13⟩ := wfKs_cons h1_6_7_8_9_10_11_12
  obtain ⟨n, rfl, p13⟩ := wfK_int k13
  obtain ⟨w14, z14, rfl, k14, h1_6_7_8_9_10_11_12_13_14⟩ := wfKs_cons h1_6_7_8_9_10_11_12_13
  obtain ⟨T, rfl, p14⟩ := wfL_of k14
  obtain ⟨w15, z15, rfl, k15, h1_6_7_8_9_10_11_12_13_14_15⟩ := wfKs_cons h1_6_7_8_9_10_11_12_13_14
  obtain ⟨y, rfl, p15⟩ := wfK_int k15
  cases wfKs_nil h1_6_7_8_9_10_11_12_13_14_15
  have h2 : _ = [] := e1
  subst h2
  exact Known.at lslp_known (a := (S0, C, K, m, r, p, c, t, s, x, h, S, n, T, y)) rfl rfl ⟨⟨p1, p2, p3, p4, p5, p6, p7, p8, p9, p10, p11, p12, p13, p14, p15⟩⟩

theorem postSlips_tab : ∀ w, laidMetH Tryd.prog Rows.postSlipsRow.laid w → laidI.ok w := by
  intro w h
  have h : laidMetH Tryd.prog [("math/bits.deBruijn32tab", Rows.laid_math_bits_deBruijn32tab), ("math/bits.deBruijn64tab", Rows.laid_math_bits_deBruijn64tab), ("internal/strconv.uint64pow10", Rows.laid_internal_strconv_uint64pow10)] w := h
  rw [MakeChecks.laidMetH_plain _ _ _ (by kernel_rfl)] at h
  have h := laid_tail h
  have h := laid_tail h
  exact Lib.tabIs_of_head (zs := Lib.pow10Tab) (k := .u64) (g := 1) (t := 187) (e := 135) (n := 20) (by kernel_rfl) (by kernel_rfl) (by kernel_rfl) (by kernel_rfl) (by kernel_rfl) (by kernel_rfl) h

theorem postSlips_met (os : Os) (args : Array Value) : laidMetH Tryd.prog Rows.postSlipsRow.laid ((World.doorLaid Tryd.prog 400 os).forCall (fun _ _ => 0) ⟨#[], args, []⟩).memory :=
  laidMetH_of_parts3 (fuel := 8) (laidMet_of_run' 8 (by kernel_rfl) (by kernel_rfl)) (by kernel_rfl) (by kernel_rfl)

set_option maxRecDepth 100000 in
theorem postSlips_lifted (os : Os) (started : os.Started) (H : Type) (enc : TypeId × Value → H) :
    ReturnsInHanded {} Tryd.checked os 7 .any (fun w args => (Rows.postSlipsSpec.pre enc Tryd.prog Tryd.f7 Rows.postSlipsRow.domain false w args ∧ laidMetH Tryd.prog Rows.postSlipsRow.laid w) ∧ sizedMet enc Tryd.prog Tryd.f7 (OpenSpec.ofChange Rows.postSlipsSpec) false w args) (Rows.postSlipsSpec.post enc Tryd.prog Tryd.f7 false true false false) :=
  law_lifted_laid (C := Tryd.checked) (tks := [(true, [.sl [.sl [.int .i64, .int .i64, .int .i64]], .sl [.str, .int .i64, .sl [.int .i64, .int .i64, .int .i64], .int .i64, .int .i64, .int .i64], .sl [.str, .int .i64, .int .i64, .int .i64], .int .i64, .int .i64]), (true, [.int .i64, .int .i64, .int .i64, .int .i64, .int .i64, .int .i64, .sl [.int .i64, .int .i64], .int .i64, .sl [.int .i64, .int .i64, .int .i64, .int .i64, .int .i64, .int .i64], .int .i64])]) (hL := laidI) postSlips_tab 8 4 ownT started (by kernel_rfl) Tryd.func7 laidT (by kernel_rfl) (by kernel_rfl) (by kernel_rfl) rfl
    (fun ds h => by match ds, h with | [_, _], _ => exact ⟨rfl, rfl, rfl⟩)
    (ChangeSpec.witness_shaped (enc := enc) (C := Tryd.checked) (os := os) (X := fun w _ => laidMetH Tryd.prog Rows.postSlipsRow.laid w) false (World.doorLaid Tryd.prog 400 os) #[(.agg #[.slice none 0 0, .slice none 0 0, .slice none 0 0, .int .i64 0, .int .i64 0]), (.agg #[.int .i64 0, .int .i64 0, .int .i64 0, .int .i64 0, .int .i64 0, .int .i64 0, .slice none 0 0, .int .i64 0, .slice none 0 0, .int .i64 0])] 8 rfl (World.shaped_of_RefB (by kernel_rfl) (by kernel_rfl)) (by kernel_rfl) (by kernel_rfl) (by kernel_rfl) (postSlips_met os _)) postSlips_ok

theorem postSlips_row_holds : Rows.PostSlipsSaid :=
  OpenClaim.holds_of_wide 7 Tryd.f7 rfl rfl rfl rfl rfl rfl rfl ⟨rfl, rfl, rfl, rfl, rfl⟩ rfl rfl rfl rfl rfl (by kernel_rfl) Tryd.func7 (by kernel_rfl)
    (of_decide_eq_true (by kernel_rfl)) (by unfold Func.isWrapper; rw [if_neg (by decide +kernel)]; exact ⟨rfl, rfl⟩)
    (fun os started H enc _ => postSlips_lifted os started H enc)

theorem postSlips_holds : Rows.PostSlipsCardSaid :=
  Claim7.holds_tied_plain_at .later [] [.data, .data, .data] true (true, "d5a7bb5ad463d66005c52beda3fbda011f0b09283c9276fa1f2ff1d33fb8fb03") false
    postSlips_row_holds (fun _ h => by cases h) (by kernel_rfl) (fun _ h => by cases h) postSlips_row_tie rfl ⟨rfl, rfl⟩ (by kernel_rfl) rfl
    (fun f fn hf hfn => by
      obtain rfl : f = 7 := Option.some.inj ((show Tryd.prog.funcNamed "stipend/stipendlaw22.PostSlips" = some 7 by kernel_rfl).symm.trans hf) |>.symm
      obtain rfl : fn = Tryd.f7 := (Option.some.inj (Tryd.func7.symm.trans hfn)).symm
      exact ⟨by kernel_rfl, fun j t ht => by
        rw [show Tryd.f7.params = #[51, 57] from by kernel_rfl] at ht
        have hm : t ∈ [51, 57] := by simpa using Array.mem_of_getElem? ht
        have hall : ([51, 57].all fun u => !Tryd.prog.wantsStandIn u) = true := by kernel_rfl
        exact (show Tryd.prog.wantsStandIn t = false by simpa using List.all_eq_true.1 hall t hm)⟩)
    (by kernel_rfl)
end Go.Proofs.YtcehjhdgdgkkgaaDoor

