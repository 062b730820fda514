/- Each frequency has a name, and each such name its frequency. -/
import Derived.Test.YtfjcjbmamdfhoaaPer4
import Derived.Test.YtfjcjbmamdfhoaaRows
namespace Go.Proofs.Ytfjcjbmamdfhoaa
open Go.Rx

theorem periodNames_ok : ∀ us, argsWf [(false, [.int .i64]), (false, [.str])] us → FnOK Try.prog 7 us (.bool true) := by
  intro us h
  obtain ⟨c0, vs0, rfl, h0, e0⟩ := h
  obtain ⟨w1, z1, rfl, k1, h0_1⟩ := wfKs_cons h0
  obtain ⟨freq, rfl, p1⟩ := wfK_int k1
  cases wfKs_nil h0_1
  obtain ⟨c1, vs1, rfl, h1, e1⟩ := e0
  obtain ⟨w2, z2, rfl, k2, h1_2⟩ := wfKs_cons h1
  obtain ⟨s, rfl, p2⟩ := wfK_str k2
  cases wfKs_nil h1_2
  have h2 : _ = [] := e1
  subst h2
  exact Known.at pnames_known (a := (freq, s)) rfl rfl ⟨⟨p1, p2⟩⟩

set_option maxRecDepth 100000 in
theorem periodNames_lifted (os : Os) (started : os.Started) (H : Type) (enc : TypeId × Value → H) :
    ReturnsInHanded {} Try.checked os 7 .any (Rows.periodNamesSpec.pre6 enc Try.prog Try.f7 Rows.periodNamesRow.domain false) (Rows.periodNamesSpec.post enc Try.prog Try.f7 false true false false) :=
  law_lifted (C := Try.checked) (tks := [(false, [.int .i64]), (false, [.str])]) 8 4 ownT started (by kernel_rfl) Try.func7 laidT (by kernel_rfl) (by kernel_rfl) (by kernel_rfl) rfl
    (fun ds h => by match ds, h with | [_, _], _ => exact ⟨rfl, rfl, rfl⟩)
    (ChangeSpec.witness6 (enc := enc) (C := Try.checked) false ⟨#[], #[.int .i64 0, .string ⟨#[]⟩], []⟩ 8 (by kernel_rfl) (by kernel_rfl) (by kernel_rfl) (by kernel_rfl)) periodNames_ok

theorem periodNames_holds : Rows.PeriodNamesSaid :=
  OpenClaim.holds_of_wide 7 Try.f7 rfl rfl rfl rfl rfl rfl rfl ⟨rfl, rfl, rfl, rfl, rfl⟩ rfl rfl rfl rfl rfl (by kernel_rfl) Try.func7 (by kernel_rfl)
    (of_decide_eq_true (by kernel_rfl)) (by unfold Func.isWrapper; rw [if_neg (by decide +kernel)]; exact ⟨rfl, rfl⟩)
    (fun os started H enc _ => periodNames_lifted os started H enc)
end Go.Proofs.Ytfjcjbmamdfhoaa
