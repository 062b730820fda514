/- PostJournal: EVERY ENTRY HAS ITS VOUCHER: what stands on each account is what its moves come to; what was undone, and nothing else, is as if it hadn't been. Conditions: none beyond those of the given statement. -/
import Derived.Test.YtcehjhdgdgkkgaaDoorPj2
import Derived.Test.YtcehjhdgdgkkgaaDoorLld
import Derived.Test.YtcehjhdgdgkkgaaDoorRows
import Derived.Test.YtcehjhdgdgkkgaaDoorCards
import Derived.Test.YtcehjhdgdgkkgaaDoorTie
namespace Go.Proofs.YtcehjhdgdgkkgaaDoor
open Go.Rx

theorem postJournal_ok : ∀ us, argsWf [(false, [.sl [.sl [.str, .int .i64]]]), (false, [.sl [.int .i64]])] us → FnOK Tryd.prog 8 us (.bool true) := by
  intro us h
  obtain ⟨c0, vs0, rfl, h0, e0⟩ := h
  obtain ⟨w1, z1, rfl, k1, h0_1⟩ := wfKs_cons h0
  obtain ⟨X, rfl, p1⟩ := wfL_of k1
  cases wfKs_nil h0_1
  obtain ⟨c1, vs1, rfl, h1, e1⟩ := e0
  obtain ⟨w2, z2, rfl, k2, h1_2⟩ := wfKs_cons h1
  obtain ⟨U, rfl, p2⟩ := wfL_of k2
  cases wfKs_nil h1_2
  have h2 : _ = [] := e1
  subst h2
  exact Known.at ljou_known (a := (X, U)) rfl rfl ⟨⟨p1, p2⟩⟩

theorem postJournal_tab : ∀ w, laidMetH Tryd.prog Rows.postJournalRow.laid w → laidI.ok w := by
  intro w h
  have h : laidMetH Tryd.prog [("math/bits.deBruijn32tab", Rows.laid_math_bits_deBruijn32tab), ("math/bits.deBruijn64tab", Rows.laid_math_bits_deBruijn64tab), ("internal/strconv.uint64pow10", Rows.laid_internal_strconv_uint64pow10)] w := h
  rw [MakeChecks.laidMetH_plain _ _ _ (by kernel_rfl)] at h
  have h := laid_tail h
  have h := laid_tail h
  exact Lib.tabIs_of_head (zs := Lib.pow10Tab) (k := .u64) (g := 1) (t := 187) (e := 135) (n := 20) (by kernel_rfl) (by kernel_rfl) (by kernel_rfl) (by kernel_rfl) (by kernel_rfl) (by kernel_rfl) h

theorem postJournal_met (os : Os) (args : Array Value) : laidMetH Tryd.prog Rows.postJournalRow.laid ((World.doorLaid Tryd.prog 400 os).forCall (fun _ _ => 0) ⟨#[], args, []⟩).memory :=
  laidMetH_of_parts3 (fuel := 8) (laidMet_of_run' 8 (by kernel_rfl) (by kernel_rfl)) (by kernel_rfl) (by kernel_rfl)

set_option maxRecDepth 100000 in
theorem postJournal_lifted (os : Os) (started : os.Started) (H : Type) (enc : TypeId × Value → H) :
    ReturnsInHanded {} Tryd.checked os 8 .any (fun w args => (Rows.postJournalSpec.pre enc Tryd.prog Tryd.f8 Rows.postJournalRow.domain false w args ∧ laidMetH Tryd.prog Rows.postJournalRow.laid w) ∧ sizedMet enc Tryd.prog Tryd.f8 (OpenSpec.ofChange Rows.postJournalSpec) false w args) (Rows.postJournalSpec.post enc Tryd.prog Tryd.f8 false true false false) :=
  law_lifted_laid (C := Tryd.checked) (tks := [(false, [.sl [.sl [.str, .int .i64]]]), (false, [.sl [.int .i64]])]) (hL := laidI) postJournal_tab 8 4 ownT started (by kernel_rfl) Tryd.func8 laidT (by kernel_rfl) (by kernel_rfl) (by kernel_rfl) rfl
    (fun ds h => by match ds, h with | [_, _], _ => exact ⟨rfl, rfl, rfl⟩)
    (ChangeSpec.witness_shaped (enc := enc) (C := Tryd.checked) (os := os) (X := fun w _ => laidMetH Tryd.prog Rows.postJournalRow.laid w) false (World.doorLaid Tryd.prog 400 os) #[.slice none 0 0, .slice none 0 0] 8 rfl (World.shaped_of_RefB (by kernel_rfl) (by kernel_rfl)) (by kernel_rfl) (by kernel_rfl) (by kernel_rfl) (postJournal_met os _)) postJournal_ok

theorem postJournal_row_holds : Rows.PostJournalSaid :=
  OpenClaim.holds_of_wide 8 Tryd.f8 rfl rfl rfl rfl rfl rfl rfl ⟨rfl, rfl, rfl, rfl, rfl⟩ rfl rfl rfl rfl rfl (by kernel_rfl) Tryd.func8 (by kernel_rfl)
    (of_decide_eq_true (by kernel_rfl)) (by unfold Func.isWrapper; rw [if_neg (by decide +kernel)]; exact ⟨rfl, rfl⟩)
    (fun os started H enc _ => postJournal_lifted os started H enc)

theorem postJournal_holds : Rows.PostJournalCardSaid :=
  Claim7.holds_tied_plain_at .later [] [.data, .data, .data] true (true, "d5a7bb5ad463d66005c52beda3fbda011f0b09283c9276fa1f2ff1d33fb8fb03") false
    postJournal_row_holds (fun _ h => by cases h) (by kernel_rfl) (fun _ h => by cases h) postJournal_row_tie rfl ⟨rfl, rfl⟩ (by kernel_rfl) rfl
    (fun f fn hf hfn => by
      obtain rfl : f = 8 := Option.some.inj ((show Tryd.prog.funcNamed "stipend/stipendlaw22.PostJournal" = some 8 by kernel_rfl).symm.trans hf) |>.symm
      obtain rfl : fn = Tryd.f8 := (Option.some.inj (Tryd.func8.symm.trans hfn)).symm
      exact ⟨by kernel_rfl, fun j t ht => by
        rw [show Tryd.f8.params = #[22, 72] from by kernel_rfl] at ht
        have hm : t ∈ [22, 72] := by simpa using Array.mem_of_getElem? ht
        have hall : ([22, 72].all fun u => !Tryd.prog.wantsStandIn u) = true := by kernel_rfl
        exact (show Tryd.prog.wantsStandIn t = false by simpa using List.all_eq_true.1 hall t hm)⟩)
    (by kernel_rfl)
end Go.Proofs.YtcehjhdgdgkkgaaDoor

