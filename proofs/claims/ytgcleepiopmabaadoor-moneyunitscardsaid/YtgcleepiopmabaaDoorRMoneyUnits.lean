/- MoneyUnits: of any two numbers and either side the law's function answers true; the package-level variables start as the program's text lays them. -/
import Derived.Test.YtgcleepiopmabaaDoorMon4
import Derived.Test.YtgcleepiopmabaaDoorLld
import Derived.Test.YtgcleepiopmabaaDoorRows
import Derived.Test.YtgcleepiopmabaaDoorCards
import Derived.Test.YtgcleepiopmabaaDoorTie
namespace Go.Proofs.YtgcleepiopmabaaDoor
open Go.Rx

theorem moneyUnits_ok : ∀ us, argsWf [(false, [.int .i64]), (false, [.int .i64]), (false, [.bool])] us → FnOK Tryd.prog 10 us (.bool true) := by
  intro us h
  obtain ⟨c0, vs0, rfl, h0, e0⟩ := h
  obtain ⟨w1, z1, rfl, k1, h0_1⟩ := wfKs_cons h0
  obtain ⟨x, rfl, p1⟩ := wfK_int k1
  cases wfKs_nil h0_1
  obtain ⟨c1, vs1, rfl, h1, e1⟩ := e0
  obtain ⟨w2, z2, rfl, k2, h1_2⟩ := wfKs_cons h1
  obtain ⟨u, rfl, p2⟩ := wfK_int k2
  cases wfKs_nil h1_2
  obtain ⟨c2, vs2, rfl, h2, e2⟩ := e1
  obtain ⟨w3, z3, rfl, k3, h2_3⟩ := wfKs_cons h2
  obtain ⟨up, rfl⟩ := wfK_bool k3
  cases wfKs_nil h2_3
  have h2 : _ = [] := e2
  subst h2
  exact Known.at lunits_known (a := (x, u, up)) rfl rfl ⟨⟨p1, p2⟩⟩

theorem moneyUnits_tab : ∀ w, laidMetH Tryd.prog Rows.moneyUnitsRow.laid w → laidI.ok w := by
  intro w h
  have h : laidMetH Tryd.prog [("math/bits.deBruijn32tab", Rows.laid_math_bits_deBruijn32tab), ("math/bits.deBruijn64tab", Rows.laid_math_bits_deBruijn64tab), ("internal/strconv.uint64pow10", Rows.laid_internal_strconv_uint64pow10)] w := h
  rw [MakeChecks.laidMetH_plain _ _ _ (by kernel_rfl)] at h
  have h := laid_tail h
  have h := laid_tail h
  exact Lib.tabIs_of_head (zs := Lib.pow10Tab) (k := .u64) (g := 3) (t := 93) (e := 31) (n := 20) (by kernel_rfl) (by kernel_rfl) (by kernel_rfl) (by kernel_rfl) (by kernel_rfl) (by kernel_rfl) h

theorem moneyUnits_met (os : Os) (args : Array Value) : laidMetH Tryd.prog Rows.moneyUnitsRow.laid ((World.doorLaid Tryd.prog 400 os).forCall (fun _ _ => 0) ⟨#[], args, []⟩).memory :=
  laidMetH_of_parts3 (fuel := 8) (laidMet_of_run' 8 (by kernel_rfl) (by kernel_rfl)) (by kernel_rfl) (by kernel_rfl)

set_option maxRecDepth 100000 in
theorem moneyUnits_lifted (os : Os) (started : os.Started) (H : Type) (enc : TypeId × Value → H) :
    ReturnsInHanded {} Tryd.checked os 10 .any (fun w args => (Rows.moneyUnitsSpec.pre enc Tryd.prog Tryd.f10 Rows.moneyUnitsRow.domain false w args ∧ laidMetH Tryd.prog Rows.moneyUnitsRow.laid w) ∧ sizedMet enc Tryd.prog Tryd.f10 (OpenSpec.ofChange Rows.moneyUnitsSpec) false w args) (Rows.moneyUnitsSpec.post enc Tryd.prog Tryd.f10 false true false false) :=
  law_lifted_laid (C := Tryd.checked) (tks := [(false, [.int .i64]), (false, [.int .i64]), (false, [.bool])]) (hL := laidI) moneyUnits_tab 8 4 ownT started (by kernel_rfl) Tryd.func10 laidT (by kernel_rfl) (by kernel_rfl) (by kernel_rfl) rfl
    (fun ds h => by match ds, h with | [_, _, _], _ => exact ⟨rfl, rfl, rfl⟩)
    (ChangeSpec.witness_shaped (enc := enc) (C := Tryd.checked) (os := os) (X := fun w _ => laidMetH Tryd.prog Rows.moneyUnitsRow.laid w) false (World.doorLaid Tryd.prog 400 os) #[.int .i64 0, .int .i64 0, .bool false] 8 rfl (World.shaped_of_RefB (by kernel_rfl) (by kernel_rfl)) (by kernel_rfl) (by kernel_rfl) (by kernel_rfl) (moneyUnits_met os _)) moneyUnits_ok

theorem moneyUnits_row_holds : Rows.MoneyUnitsSaid :=
  OpenClaim.holds_of_wide 10 Tryd.f10 rfl rfl rfl rfl rfl rfl rfl ⟨rfl, rfl, rfl, rfl, rfl⟩ rfl rfl rfl rfl rfl (by kernel_rfl) Tryd.func10 (by kernel_rfl)
    (of_decide_eq_true (by kernel_rfl)) (by unfold Func.isWrapper; rw [if_neg (by decide +kernel)]; exact ⟨rfl, rfl⟩)
    (fun os started H enc _ => moneyUnits_lifted os started H enc)

theorem moneyUnits_holds : Rows.MoneyUnitsCardSaid :=
  Claim7.holds_tied_plain_at .later [] [.data, .data, .data] true (true, "3d294e8505d1a5fb2508b22fcc73048367abc7e9aaaa479a3a2e7ca84157d182") false
    moneyUnits_row_holds (fun _ h => by cases h) (by kernel_rfl) (fun _ h => by cases h) moneyUnits_row_tie rfl ⟨rfl, rfl⟩ (by kernel_rfl) rfl
    (fun f fn hf hfn => by
      obtain rfl : f = 10 := Option.some.inj ((show Tryd.prog.funcNamed "stipend/stipendlaw01.MoneyUnits" = some 10 by kernel_rfl).symm.trans hf) |>.symm
      obtain rfl : fn = Tryd.f10 := (Option.some.inj (Tryd.func10.symm.trans hfn)).symm
      exact ⟨by kernel_rfl, fun j t ht => by
        rw [show Tryd.f10.params = #[2, 2, 4] from by kernel_rfl] at ht
        have hm : t ∈ [2, 2, 4] := by simpa using Array.mem_of_getElem? ht
        have hall : ([2, 2, 4].all fun u => !Tryd.prog.wantsStandIn u) = true := by kernel_rfl
        exact (show Tryd.prog.wantsStandIn t = false by simpa using List.all_eq_true.1 hall t hm)⟩)
    (by kernel_rfl)
end Go.Proofs.YtgcleepiopmabaaDoor
