/- MoneyTexts: of any number the law's function answers true; the package-level variables start as the program's text lays them. -/
import Derived.Test.YtgcleepiopmabaaDoorMon7
import Derived.Test.YtgcleepiopmabaaDoorLld
import Derived.Test.YtgcleepiopmabaaDoorRows
import Derived.Test.YtgcleepiopmabaaDoorCards
import Derived.Test.YtgcleepiopmabaaDoorTie
namespace Go.Proofs.YtgcleepiopmabaaDoor
open Go.Rx

theorem moneyTexts_ok : ∀ us, argsWf [(false, [.int .i64])] us → FnOK Tryd.prog 3 us (.bool true) := by
  intro us h
  obtain ⟨c0, vs0, rfl, h0, e0⟩ := h
  obtain ⟨w1, z1, rfl, k1, h0_1⟩ := wfKs_cons h0
  obtain ⟨x, rfl, p1⟩ := wfK_int k1
  cases wfKs_nil h0_1
  have h2 : _ = [] := e0
  subst h2
  exact Known.at ltexts_known (a := x) rfl rfl ⟨p1⟩

theorem moneyTexts_tab : ∀ w, laidMetH Tryd.prog Rows.moneyTextsRow.laid w → laidI.ok w := by
  intro w h
  have h : laidMetH Tryd.prog [("math/bits.deBruijn32tab", Rows.laid_math_bits_deBruijn32tab), ("math/bits.deBruijn64tab", Rows.laid_math_bits_deBruijn64tab), ("internal/strconv.uint64pow10", Rows.laid_internal_strconv_uint64pow10)] w := h
  rw [MakeChecks.laidMetH_plain _ _ _ (by kernel_rfl)] at h
  have h := laid_tail h
  have h := laid_tail h
  exact Lib.tabIs_of_head (zs := Lib.pow10Tab) (k := .u64) (g := 3) (t := 93) (e := 31) (n := 20) (by kernel_rfl) (by kernel_rfl) (by kernel_rfl) (by kernel_rfl) (by kernel_rfl) (by kernel_rfl) h

theorem moneyTexts_met (os : Os) (args : Array Value) : laidMetH Tryd.prog Rows.moneyTextsRow.laid ((World.doorLaid Tryd.prog 400 os).forCall (fun _ _ => 0) ⟨#[], args, []⟩).memory :=
  laidMetH_of_parts3 (fuel := 8) (laidMet_of_run' 8 (by kernel_rfl) (by kernel_rfl)) (by kernel_rfl) (by kernel_rfl)

set_option maxRecDepth 100000 in
theorem moneyTexts_lifted (os : Os) (started : os.Started) (H : Type) (enc : TypeId × Value → H) :
    ReturnsInHanded {} Tryd.checked os 3 .any (fun w args => (Rows.moneyTextsSpec.pre enc Tryd.prog Tryd.f3 Rows.moneyTextsRow.domain false w args ∧ laidMetH Tryd.prog Rows.moneyTextsRow.laid w) ∧ sizedMet enc Tryd.prog Tryd.f3 (OpenSpec.ofChange Rows.moneyTextsSpec) false w args) (Rows.moneyTextsSpec.post enc Tryd.prog Tryd.f3 false true false false) :=
  law_lifted_laid (C := Tryd.checked) (tks := [(false, [.int .i64])]) (hL := laidI) moneyTexts_tab 8 4 ownT started (by kernel_rfl) Tryd.func3 laidT (by kernel_rfl) (by kernel_rfl) (by kernel_rfl) rfl
    (fun ds h => by match ds, h with | [_], _ => exact ⟨rfl, rfl, rfl⟩)
    (ChangeSpec.witness_shaped (enc := enc) (C := Tryd.checked) (os := os) (X := fun w _ => laidMetH Tryd.prog Rows.moneyTextsRow.laid w) false (World.doorLaid Tryd.prog 400 os) #[.int .i64 0] 8 rfl (World.shaped_of_RefB (by kernel_rfl) (by kernel_rfl)) (by kernel_rfl) (by kernel_rfl) (by kernel_rfl) (moneyTexts_met os _)) moneyTexts_ok

theorem moneyTexts_row_holds : Rows.MoneyTextsSaid :=
  OpenClaim.holds_of_wide 3 Tryd.f3 rfl rfl rfl rfl rfl rfl rfl ⟨rfl, rfl, rfl, rfl, rfl⟩ rfl rfl rfl rfl rfl (by kernel_rfl) Tryd.func3 (by kernel_rfl)
    (of_decide_eq_true (by kernel_rfl)) (by unfold Func.isWrapper; rw [if_neg (by decide +kernel)]; exact ⟨rfl, rfl⟩)
    (fun os started H enc _ => moneyTexts_lifted os started H enc)

theorem moneyTexts_holds : Rows.MoneyTextsCardSaid :=
  Claim7.holds_tied_plain_at .later [] [.data, .data, .data] true (true, "3d294e8505d1a5fb2508b22fcc73048367abc7e9aaaa479a3a2e7ca84157d182") false
    moneyTexts_row_holds (fun _ h => by cases h) (by kernel_rfl) (fun _ h => by cases h) moneyTexts_row_tie rfl ⟨rfl, rfl⟩ (by kernel_rfl) rfl
    (fun f fn hf hfn => by
      obtain rfl : f = 3 := Option.some.inj ((show Tryd.prog.funcNamed "stipend/stipendlaw01.MoneyTexts" = some 3 by kernel_rfl).symm.trans hf) |>.symm
      obtain rfl : fn = Tryd.f3 := (Option.some.inj (Tryd.func3.symm.trans hfn)).symm
      exact ⟨by kernel_rfl, fun j t ht => by
        rw [show Tryd.f3.params = #[2] from by kernel_rfl] at ht
        have hm : t ∈ [2] := by simpa using Array.mem_of_getElem? ht
        have hall : ([2].all fun u => !Tryd.prog.wantsStandIn u) = true := by kernel_rfl
        exact (show Tryd.prog.wantsStandIn t = false by simpa using List.all_eq_true.1 hall t hm)⟩)
    (by kernel_rfl)
end Go.Proofs.YtgcleepiopmabaaDoor
