/- KeepCuts: a table that isn't accepted is, with the greatest limit below its own by which it is, if there is one; by how much a rate may rise is told. Conditions: none beyond those of the given statement. -/
import Derived.Test.YtepacdklieigfaaDoorKl
import Derived.Test.YtepacdklieigfaaDoorLld
import Derived.Test.YtepacdklieigfaaDoorRows
import Derived.Test.YtepacdklieigfaaDoorCards
import Derived.Test.YtepacdklieigfaaDoorTie
namespace Go.Proofs.YtepacdklieigfaaDoor
open Go.Rx

theorem keepCuts_ok : ∀ us, argsWf [(true, [.sl [.sl [.int .i64, .int .i64, .int .i64]], .sl [.str, .int .i64, .sl [.int .i64, .int .i64, .int .i64], .int .i64, .int .i64, .int .i64], .sl [.str, .int .i64, .int .i64, .int .i64], .int .i64, .int .i64])] us → FnOK Tryd.prog 3 us (.bool true) := by
  intro us h
  obtain ⟨c0, vs0, rfl, h0, e0⟩ := h
  obtain ⟨w1, z1, rfl, k1, h0_1⟩ := wfKs_cons h0
  obtain ⟨S, rfl, p1⟩ := wfL_of k1
  obtain ⟨w2, z2, rfl, k2, h0_1_2⟩ := wfKs_cons h0_1
  obtain ⟨C, rfl, p2⟩ := wfL_of k2
  obtain ⟨w3, z3, rfl, k3, h0_1_2_3⟩ := wfKs_cons h0_1_2
  obtain ⟨K, rfl, p3⟩ := wfL_of k3
  obtain ⟨w4, z4, rfl, k4, h0_1_2_3_4⟩ := wfKs_cons h0_1_2_3
  obtain ⟨m, rfl, p4⟩ := wfK_int k4
  obtain ⟨w5, z5, rfl, k5, h0_1_2_3_4_5⟩ := wfKs_cons h0_1_2_3_4
  obtain ⟨r, rfl, p5⟩ := wfK_int k5
  cases wfKs_nil h0_1_2_3_4_5
  have h2 : _ = [] := e0
  subst h2
  exact Known.at lcuts_known (a := (S, C, K, m, r)) rfl rfl ⟨⟨p1, p2, p3, p4, p5⟩⟩

theorem keepCuts_tab : ∀ w, laidMetH Tryd.prog Rows.keepCutsRow.laid w → laidI.ok w := by
  intro w h
  have h : laidMetH Tryd.prog [("math/bits.deBruijn32tab", Rows.laid_math_bits_deBruijn32tab), ("math/bits.deBruijn64tab", Rows.laid_math_bits_deBruijn64tab), ("internal/strconv.uint64pow10", Rows.laid_internal_strconv_uint64pow10)] w := h
  rw [MakeChecks.laidMetH_plain _ _ _ (by kernel_rfl)] at h
  have h := laid_tail h
  have h := laid_tail h
  exact Lib.tabIs_of_head (zs := Lib.pow10Tab) (k := .u64) (g := 0) (t := 86) (e := 78) (n := 20) (by kernel_rfl) (by kernel_rfl) (by kernel_rfl) (by kernel_rfl) (by kernel_rfl) (by kernel_rfl) h

theorem keepCuts_met (os : Os) (args : Array Value) : laidMetH Tryd.prog Rows.keepCutsRow.laid ((World.doorLaid Tryd.prog 400 os).forCall (fun _ _ => 0) ⟨#[], args, []⟩).memory :=
  laidMetH_of_parts3 (fuel := 8) (laidMet_of_run' 8 (by kernel_rfl) (by kernel_rfl)) (by kernel_rfl) (by kernel_rfl)

set_option maxRecDepth 100000 in
theorem keepCuts_lifted (os : Os) (started : os.Started) (H : Type) (enc : TypeId × Value → H) :
    ReturnsInHanded {} Tryd.checked os 3 .any (fun w args => (Rows.keepCutsSpec.pre enc Tryd.prog Tryd.f3 Rows.keepCutsRow.domain false w args ∧ laidMetH Tryd.prog Rows.keepCutsRow.laid w) ∧ sizedMet enc Tryd.prog Tryd.f3 (OpenSpec.ofChange Rows.keepCutsSpec) false w args) (Rows.keepCutsSpec.post enc Tryd.prog Tryd.f3 false true false false) :=
  law_lifted_laid (C := Tryd.checked) (tks := [(true, [.sl [.sl [.int .i64, .int .i64, .int .i64]], .sl [.str, .int .i64, .sl [.int .i64, .int .i64, .int .i64], .int .i64, .int .i64, .int .i64], .sl [.str, .int .i64, .int .i64, .int .i64], .int .i64, .int .i64])]) (hL := laidI) keepCuts_tab 8 4 ownT started (by kernel_rfl) Tryd.func3 laidT (by kernel_rfl) (by kernel_rfl) (by kernel_rfl) rfl
    (fun ds h => by match ds, h with | [_], _ => exact ⟨rfl, rfl, rfl⟩)
    (ChangeSpec.witness_shaped (enc := enc) (C := Tryd.checked) (os := os) (X := fun w _ => laidMetH Tryd.prog Rows.keepCutsRow.laid w) false (World.doorLaid Tryd.prog 400 os) #[(.agg #[.slice none 0 0, .slice none 0 0, .slice none 0 0, .int .i64 0, .int .i64 0])] 8 rfl (World.shaped_of_RefB (by kernel_rfl) (by kernel_rfl)) (by kernel_rfl) (by kernel_rfl) (by kernel_rfl) (keepCuts_met os _)) keepCuts_ok

theorem keepCuts_row_holds : Rows.KeepCutsSaid :=
  OpenClaim.holds_of_wide 3 Tryd.f3 rfl rfl rfl rfl rfl rfl rfl ⟨rfl, rfl, rfl, rfl, rfl⟩ rfl rfl rfl rfl rfl (by kernel_rfl) Tryd.func3 (by kernel_rfl)
    (of_decide_eq_true (by kernel_rfl)) (by unfold Func.isWrapper; rw [if_neg (by decide +kernel)]; exact ⟨rfl, rfl⟩)
    (fun os started H enc _ => keepCuts_lifted os started H enc)

theorem keepCuts_holds : Rows.KeepCutsCardSaid :=
  Claim7.holds_tied_plain_at .later [] [.data, .data, .data] true (true, "c401d45fafb8e0d04425215c96b21ee47f09c1f927a7445051ac66ef3d311621") false
    keepCuts_row_holds (fun _ h => by cases h) (by kernel_rfl) (fun _ h => by cases h) keepCuts_row_tie rfl ⟨rfl, rfl⟩ (by kernel_rfl) rfl
    (fun f fn hf hfn => by
      obtain rfl : f = 3 := Option.some.inj ((show Tryd.prog.funcNamed "stipend/stipendlaw10.KeepCuts" = some 3 by kernel_rfl).symm.trans hf) |>.symm
      obtain rfl : fn = Tryd.f3 := (Option.some.inj (Tryd.func3.symm.trans hfn)).symm
      exact ⟨by kernel_rfl, fun j t ht => by
        rw [show Tryd.f3.params = #[26] from by kernel_rfl] at ht
        have hm : t ∈ [26] := by simpa using Array.mem_of_getElem? ht
        have hall : ([26].all fun u => !Tryd.prog.wantsStandIn u) = true := by kernel_rfl
        exact (show Tryd.prog.wantsStandIn t = false by simpa using List.all_eq_true.1 hall t hm)⟩)
    (by kernel_rfl)
end Go.Proofs.YtepacdklieigfaaDoor
