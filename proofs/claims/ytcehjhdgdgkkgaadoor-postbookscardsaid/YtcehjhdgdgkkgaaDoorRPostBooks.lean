/- PostBooks: A BOOK COMES TO NOTHING: whatever entries are booked, behind each what stands on all accounts comes to nothing. Conditions: none beyond those of the given statement. -/
import Derived.Test.YtcehjhdgdgkkgaaDoorPb
import Derived.Test.YtcehjhdgdgkkgaaDoorLld
import Derived.Test.YtcehjhdgdgkkgaaDoorRows
import Derived.Test.YtcehjhdgdgkkgaaDoorCards
import Derived.Test.YtcehjhdgdgkkgaaDoorTie
namespace Go.Proofs.YtcehjhdgdgkkgaaDoor
open Go.Rx

theorem postBooks_ok : ∀ us, argsWf [(false, [.sl [.sl [.str, .int .i64]]])] us → FnOK Tryd.prog 3 us (.bool true) := by
  intro us h
  obtain ⟨c0, vs0, rfl, h0, e0⟩ := h
  obtain ⟨w1, z1, rfl, k1, h0_1⟩ := wfKs_cons h0
  obtain ⟨X, rfl, p1⟩ := wfL_of k1
  cases wfKs_nil h0_1
  have h2 : _ = [] := e0
  subst h2
  exact Known.at lbks_known (a := X) rfl rfl ⟨p1⟩

theorem postBooks_tab : ∀ w, laidMetH Tryd.prog Rows.postBooksRow.laid w → laidI.ok w := by
  intro w h
  have h : laidMetH Tryd.prog [("math/bits.deBruijn32tab", Rows.laid_math_bits_deBruijn32tab), ("math/bits.deBruijn64tab", Rows.laid_math_bits_deBruijn64tab), ("internal/strconv.uint64pow10", Rows.laid_internal_strconv_uint64pow10)] w := h
  rw [MakeChecks.laidMetH_plain _ _ _ (by kernel_rfl)] at h
  have h := laid_tail h
  have h := laid_tail h
  exact Lib.tabIs_of_head (zs := Lib.pow10Tab) (k := .u64) (g := 1) (t := 187) (e := 135) (n := 20) (by kernel_rfl) (by kernel_rfl) (by kernel_rfl) (by kernel_rfl) (by kernel_rfl) (by kernel_rfl) h

theorem postBooks_met (os : Os) (args : Array Value) : laidMetH Tryd.prog Rows.postBooksRow.laid ((World.doorLaid Tryd.prog 400 os).forCall (fun _ _ => 0) ⟨#[], args, []⟩).memory :=
  laidMetH_of_parts3 (fuel := 8) (laidMet_of_run' 8 (by kernel_rfl) (by kernel_rfl)) (by kernel_rfl) (by kernel_rfl)

set_option maxRecDepth 100000 in
theorem postBooks_lifted (os : Os) (started : os.Started) (H : Type) (enc : TypeId × Value → H) :
    ReturnsInHanded {} Tryd.checked os 3 .any (fun w args => (Rows.postBooksSpec.pre enc Tryd.prog Tryd.f3 Rows.postBooksRow.domain false w args ∧ laidMetH Tryd.prog Rows.postBooksRow.laid w) ∧ sizedMet enc Tryd.prog Tryd.f3 (OpenSpec.ofChange Rows.postBooksSpec) false w args) (Rows.postBooksSpec.post enc Tryd.prog Tryd.f3 false true false false) :=
  law_lifted_laid (C := Tryd.checked) (tks := [(false, [.sl [.sl [.str, .int .i64]]])]) (hL := laidI) postBooks_tab 8 4 ownT started (by kernel_rfl) Tryd.func3 laidT (by kernel_rfl) (by kernel_rfl) (by kernel_rfl) rfl
    (fun ds h => by match ds, h with | [_], _ => exact ⟨rfl, rfl, rfl⟩)
    (ChangeSpec.witness_shaped (enc := enc) (C := Tryd.checked) (os := os) (X := fun w _ => laidMetH Tryd.prog Rows.postBooksRow.laid w) false (World.doorLaid Tryd.prog 400 os) #[.slice none 0 0] 8 rfl (World.shaped_of_RefB (by kernel_rfl) (by kernel_rfl)) (by kernel_rfl) (by kernel_rfl) (by kernel_rfl) (postBooks_met os _)) postBooks_ok

theorem postBooks_row_holds : Rows.PostBooksSaid :=
  OpenClaim.holds_of_wide 3 Tryd.f3 rfl rfl rfl rfl rfl rfl rfl ⟨rfl, rfl, rfl, rfl, rfl⟩ rfl rfl rfl rfl rfl (by kernel_rfl) Tryd.func3 (by kernel_rfl)
    (of_decide_eq_true (by kernel_rfl)) (by unfold Func.isWrapper; rw [if_neg (by decide +kernel)]; exact ⟨rfl, rfl⟩)
    (fun os started H enc _ => postBooks_lifted os started H enc)

theorem postBooks_holds : Rows.PostBooksCardSaid :=
  Claim7.holds_tied_plain_at .later [] [.data, .data, .data] true (true, "d5a7bb5ad463d66005c52beda3fbda011f0b09283c9276fa1f2ff1d33fb8fb03") false
    postBooks_row_holds (fun _ h => by cases h) (by kernel_rfl) (fun _ h => by cases h) postBooks_row_tie rfl ⟨rfl, rfl⟩ (by kernel_rfl) rfl
    (fun f fn hf hfn => by
      obtain rfl : f = 3 := Option.some.inj ((show Tryd.prog.funcNamed "stipend/stipendlaw22.PostBooks" = some 3 by kernel_rfl).symm.trans hf) |>.symm
      obtain rfl : fn = Tryd.f3 := (Option.some.inj (Tryd.func3.symm.trans hfn)).symm
      exact ⟨by kernel_rfl, fun j t ht => by
        rw [show Tryd.f3.params = #[22] from by kernel_rfl] at ht
        have hm : t ∈ [22] := by simpa using Array.mem_of_getElem? ht
        have hall : ([22].all fun u => !Tryd.prog.wantsStandIn u) = true := by kernel_rfl
        exact (show Tryd.prog.wantsStandIn t = false by simpa using List.all_eq_true.1 hall t hm)⟩)
    (by kernel_rfl)
end Go.Proofs.YtcehjhdgdgkkgaaDoor

