/- MoneySpreads: an amount in parts by weights is the document's; the parts come to the amount. Conditions: none beyond those of the given statement. -/
import Derived.Test.YtgcleepiopmabaaDoorPb
import Derived.Test.YtgcleepiopmabaaDoorLld
import Derived.Test.YtgcleepiopmabaaDoorRows
import Derived.Test.YtgcleepiopmabaaDoorCards
import Derived.Test.YtgcleepiopmabaaDoorTie
namespace Go.Proofs.YtgcleepiopmabaaDoor
open Go.Rx

theorem moneySpreads_ok : ∀ us, argsWf [(false, [.int .i64]), (false, [.sl [.int .i64]])] us → FnOK Tryd.prog 6 us (.bool true) := by
  intro us h
  obtain ⟨c0, vs0, rfl, h0, e0⟩ := h
  obtain ⟨w1, z1, rfl, k1, h0_1⟩ := wfKs_cons h0
  obtain ⟨x, rfl, p1⟩ := wfK_int k1
  cases wfKs_nil h0_1
  obtain ⟨c1, vs1, rfl, h1, e1⟩ := e0
  obtain ⟨w2, z2, rfl, k2, h1_2⟩ := wfKs_cons h1
  obtain ⟨W, rfl, p2⟩ := wfL_of k2
  cases wfKs_nil h1_2
  have h2 : _ = [] := e1
  subst h2
  exact Known.at lspreads_known (a := (x, W)) rfl rfl ⟨⟨p1, p2⟩⟩

theorem moneySpreads_tab : ∀ w, laidMetH Tryd.prog Rows.moneySpreadsRow.laid w → laidI.ok w := by
  intro w h
  have h : laidMetH Tryd.prog [("math/bits.deBruijn32tab", Rows.laid_math_bits_deBruijn32tab), ("math/bits.deBruijn64tab", Rows.laid_math_bits_deBruijn64tab), ("internal/strconv.uint64pow10", Rows.laid_internal_strconv_uint64pow10)] w := h
  rw [MakeChecks.laidMetH_plain _ _ _ (by kernel_rfl)] at h
  have h := laid_tail h
  have h := laid_tail h
  exact Lib.tabIs_of_head (zs := Lib.pow10Tab) (k := .u64) (g := 3) (t := 93) (e := 31) (n := 20) (by kernel_rfl) (by kernel_rfl) (by kernel_rfl) (by kernel_rfl) (by kernel_rfl) (by kernel_rfl) h

theorem moneySpreads_met (os : Os) (args : Array Value) : laidMetH Tryd.prog Rows.moneySpreadsRow.laid ((World.doorLaid Tryd.prog 400 os).forCall (fun _ _ => 0) ⟨#[], args, []⟩).memory :=
  laidMetH_of_parts3 (fuel := 8) (laidMet_of_run' 8 (by kernel_rfl) (by kernel_rfl)) (by kernel_rfl) (by kernel_rfl)

set_option maxRecDepth 100000 in
theorem moneySpreads_lifted (os : Os) (started : os.Started) (H : Type) (enc : TypeId × Value → H) :
    ReturnsInHanded {} Tryd.checked os 6 .any (fun w args => (Rows.moneySpreadsSpec.pre enc Tryd.prog Tryd.f6 Rows.moneySpreadsRow.domain false w args ∧ laidMetH Tryd.prog Rows.moneySpreadsRow.laid w) ∧ sizedMet enc Tryd.prog Tryd.f6 (OpenSpec.ofChange Rows.moneySpreadsSpec) false w args) (Rows.moneySpreadsSpec.post enc Tryd.prog Tryd.f6 false true false false) :=
  law_lifted_laid (C := Tryd.checked) (tks := [(false, [.int .i64]), (false, [.sl [.int .i64]])]) (hL := laidI) moneySpreads_tab 8 4 ownT started (by kernel_rfl) Tryd.func6 laidT (by kernel_rfl) (by kernel_rfl) (by kernel_rfl) rfl
    (fun ds h => by match ds, h with | [_, _], _ => exact ⟨rfl, rfl, rfl⟩)
    (ChangeSpec.witness_shaped (enc := enc) (C := Tryd.checked) (os := os) (X := fun w _ => laidMetH Tryd.prog Rows.moneySpreadsRow.laid w) false (World.doorLaid Tryd.prog 400 os) #[.int .i64 0, .slice none 0 0] 8 rfl (World.shaped_of_RefB (by kernel_rfl) (by kernel_rfl)) (by kernel_rfl) (by kernel_rfl) (by kernel_rfl) (moneySpreads_met os _)) moneySpreads_ok

theorem moneySpreads_row_holds : Rows.MoneySpreadsSaid :=
  OpenClaim.holds_of_wide 6 Tryd.f6 rfl rfl rfl rfl rfl rfl rfl ⟨rfl, rfl, rfl, rfl, rfl⟩ rfl rfl rfl rfl rfl (by kernel_rfl) Tryd.func6 (by kernel_rfl)
    (of_decide_eq_true (by kernel_rfl)) (by unfold Func.isWrapper; rw [if_neg (by decide +kernel)]; exact ⟨rfl, rfl⟩)
    (fun os started H enc _ => moneySpreads_lifted os started H enc)

theorem moneySpreads_holds : Rows.MoneySpreadsCardSaid :=
  Claim7.holds_tied_plain_at .later [] [.data, .data, .data] true (true, "3d294e8505d1a5fb2508b22fcc73048367abc7e9aaaa479a3a2e7ca84157d182") false
    moneySpreads_row_holds (fun _ h => by cases h) (by kernel_rfl) (fun _ h => by cases h) moneySpreads_row_tie rfl ⟨rfl, rfl⟩ (by kernel_rfl) rfl
    (fun f fn hf hfn => by
      obtain rfl : f = 6 := Option.some.inj ((show Tryd.prog.funcNamed "stipend/stipendlaw01.MoneySpreads" = some 6 by kernel_rfl).symm.trans hf) |>.symm
      obtain rfl : fn = Tryd.f6 := (Option.some.inj (Tryd.func6.symm.trans hfn)).symm
      exact ⟨by kernel_rfl, fun j t ht => by
        rw [show Tryd.f6.params = #[2, 33] from by kernel_rfl] at ht
        have hm : t ∈ [2, 33] := by simpa using Array.mem_of_getElem? ht
        have hall : ([2, 33].all fun u => !Tryd.prog.wantsStandIn u) = true := by kernel_rfl
        exact (show Tryd.prog.wantsStandIn t = false by simpa using List.all_eq_true.1 hall t hm)⟩)
    (by kernel_rfl)
end Go.Proofs.YtgcleepiopmabaaDoor

