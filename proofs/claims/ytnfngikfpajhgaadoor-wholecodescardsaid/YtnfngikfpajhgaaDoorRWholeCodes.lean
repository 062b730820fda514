/- WholeCodes: WRITTEN AND READ AMONG OTHERS: a tax code that stands as a word in a line is read of it as that code; and what it frees in parts of a year is what it frees in all. Conditions: none beyond those of the given statement. -/
import Derived.Test.YtnfngikfpajhgaaDoorWc
import Derived.Test.YtnfngikfpajhgaaDoorLld
import Derived.Test.YtnfngikfpajhgaaDoorRows
import Derived.Test.YtnfngikfpajhgaaDoorCards
import Derived.Test.YtnfngikfpajhgaaDoorTie
namespace Go.Proofs.YtnfngikfpajhgaaDoor
open Go.Rx

theorem wholeCodes_ok : ∀ us, argsWf [(true, [.int .i64, .int .i64, .int .i64, .int .i64, .bool]), (false, [.sl [.str]]), (false, [.int .i64])] us → FnOK Tryd.prog 8 us (.bool true) := by
  intro us h
  obtain ⟨c0, vs0, rfl, h0, e0⟩ := h
  obtain ⟨w1, z1, rfl, k1, h0_1⟩ := wfKs_cons h0
  obtain ⟨s, rfl, p1⟩ := wfK_int k1
  obtain ⟨w2, z2, rfl, k2, h0_1_2⟩ := wfKs_cons h0_1
  obtain ⟨k, rfl, p2⟩ := wfK_int k2
  obtain ⟨w3, z3, rfl, k3, h0_1_2_3⟩ := wfKs_cons h0_1_2
  obtain ⟨a, rfl, p3⟩ := wfK_int k3
  obtain ⟨w4, z4, rfl, k4, h0_1_2_3_4⟩ := wfKs_cons h0_1_2_3
  obtain ⟨f, rfl, p4⟩ := wfK_int k4
  obtain ⟨w5, z5, rfl, k5, h0_1_2_3_4_5⟩ := wfKs_cons h0_1_2_3_4
  obtain ⟨al, rfl⟩ := wfK_bool k5
  cases wfKs_nil h0_1_2_3_4_5
  obtain ⟨c1, vs1, rfl, h1, e1⟩ := e0
  obtain ⟨w6, z6, rfl, k6, h1_6⟩ := wfKs_cons h1
  obtain ⟨W, rfl, p6⟩ := wfL_of k6
  cases wfKs_nil h1_6
  obtain ⟨c2, vs2, rfl, h2, e2⟩ := e1
  obtain ⟨w7, z7, rfl, k7, h2_7⟩ := wfKs_cons h2
  obtain ⟨n, rfl, p7⟩ := wfK_int k7
  cases wfKs_nil h2_7
  have h2 : _ = [] := e2
  subst h2
  exact Known.at wcodes_known (a := (s, k, a, f, al, W, n)) rfl rfl ⟨⟨p1, p2, p3, p4, p6, p7⟩⟩

theorem wholeCodes_tab : ∀ w, laidMetH Tryd.prog Rows.wholeCodesRow.laid w → laidI.ok w := by
  intro w h
  have h : laidMetH Tryd.prog [("math/bits.deBruijn32tab", Rows.laid_math_bits_deBruijn32tab), ("math/bits.deBruijn64tab", Rows.laid_math_bits_deBruijn64tab), ("internal/strconv.uint64pow10", Rows.laid_internal_strconv_uint64pow10)] w := h
  rw [MakeChecks.laidMetH_plain _ _ _ (by kernel_rfl)] at h
  have h := laid_tail h
  have h := laid_tail h
  exact Lib.tabIs_of_head (zs := Lib.pow10Tab) (k := .u64) (g := 0) (t := 83) (e := 74) (n := 20) (by kernel_rfl) (by kernel_rfl) (by kernel_rfl) (by kernel_rfl) (by kernel_rfl) (by kernel_rfl) h

theorem wholeCodes_met (os : Os) (args : Array Value) : laidMetH Tryd.prog Rows.wholeCodesRow.laid ((World.doorLaid Tryd.prog 400 os).forCall (fun _ _ => 0) ⟨#[], args, []⟩).memory :=
  laidMetH_of_parts3 (fuel := 8) (laidMet_of_run' 8 (by kernel_rfl) (by kernel_rfl)) (by kernel_rfl) (by kernel_rfl)

set_option maxRecDepth 100000 in
theorem wholeCodes_lifted (os : Os) (started : os.Started) (H : Type) (enc : TypeId × Value → H) :
    ReturnsInHanded {} Tryd.checked os 8 .any (fun w args => (Rows.wholeCodesSpec.pre enc Tryd.prog Tryd.f8 Rows.wholeCodesRow.domain false w args ∧ laidMetH Tryd.prog Rows.wholeCodesRow.laid w) ∧ sizedMet enc Tryd.prog Tryd.f8 (OpenSpec.ofChange Rows.wholeCodesSpec) false w args) (Rows.wholeCodesSpec.post enc Tryd.prog Tryd.f8 false true false false) :=
  law_lifted_laid (C := Tryd.checked) (tks := [(true, [.int .i64, .int .i64, .int .i64, .int .i64, .bool]), (false, [.sl [.str]]), (false, [.int .i64])]) (hL := laidI) wholeCodes_tab 8 4 ownT started (by kernel_rfl) Tryd.func8 laidT (by kernel_rfl) (by kernel_rfl) (by kernel_rfl) rfl
    (fun ds h => by match ds, h with | [_, _, _], _ => exact ⟨rfl, rfl, rfl⟩)
    (ChangeSpec.witness_shaped (enc := enc) (C := Tryd.checked) (os := os) (X := fun w _ => laidMetH Tryd.prog Rows.wholeCodesRow.laid w) false (World.doorLaid Tryd.prog 400 os) #[(.agg #[.int .i64 0, .int .i64 0, .int .i64 0, .int .i64 0, .bool false]), .slice none 0 0, .int .i64 0] 8 rfl (World.shaped_of_RefB (by kernel_rfl) (by kernel_rfl)) (by kernel_rfl) (by kernel_rfl) (by kernel_rfl) (wholeCodes_met os _)) wholeCodes_ok

theorem wholeCodes_row_holds : Rows.WholeCodesSaid :=
  OpenClaim.holds_of_wide 8 Tryd.f8 rfl rfl rfl rfl rfl rfl rfl ⟨rfl, rfl, rfl, rfl, rfl⟩ rfl rfl rfl rfl rfl (by kernel_rfl) Tryd.func8 (by kernel_rfl)
    (of_decide_eq_true (by kernel_rfl)) (by unfold Func.isWrapper; rw [if_neg (by decide +kernel)]; exact ⟨rfl, rfl⟩)
    (fun os started H enc _ => wholeCodes_lifted os started H enc)

theorem wholeCodes_holds : Rows.WholeCodesCardSaid :=
  Claim7.holds_tied_plain_at .later [] [.data, .data, .data] true (true, "7157016554c027cf92fddc4f45a9d557c1f810b226a0b66c1878cb44cf44f595") false
    wholeCodes_row_holds (fun _ h => by cases h) (by kernel_rfl) (fun _ h => by cases h) wholeCodes_row_tie rfl ⟨rfl, rfl⟩ (by kernel_rfl) rfl
    (fun f fn hf hfn => by
      obtain rfl : f = 8 := Option.some.inj ((show Tryd.prog.funcNamed "stipend/stipendtop.WholeCodes" = some 8 by kernel_rfl).symm.trans hf) |>.symm
      obtain rfl : fn = Tryd.f8 := (Option.some.inj (Tryd.func8.symm.trans hfn)).symm
      exact ⟨by kernel_rfl, fun j t ht => by
        rw [show Tryd.f8.params = #[23, 41, 3] from by kernel_rfl] at ht
        have hm : t ∈ [23, 41, 3] := by simpa using Array.mem_of_getElem? ht
        have hall : ([23, 41, 3].all fun u => !Tryd.prog.wantsStandIn u) = true := by kernel_rfl
        exact (show Tryd.prog.wantsStandIn t = false by simpa using List.all_eq_true.1 hall t hm)⟩)
    (by kernel_rfl)
end Go.Proofs.YtnfngikfpajhgaaDoor

