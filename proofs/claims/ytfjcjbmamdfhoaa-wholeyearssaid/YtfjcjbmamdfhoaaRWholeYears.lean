/- Tax years of one frequency follow each other without a gap. -/
import Derived.Test.YtfjcjbmamdfhoaaPer6
import Derived.Test.YtfjcjbmamdfhoaaRows
namespace Go.Proofs.Ytfjcjbmamdfhoaa
open Go.Rx

theorem wholeYears_ok : ∀ us, argsWf [(false, [.int .i64]), (true, [.int .i64, .int .i64, .int .i64]), (false, [.int .i64])] us → FnOK Try.prog 9 us (.bool true) := by
  intro us h
  obtain ⟨c0, vs0, rfl, h0, e0⟩ := h
  obtain ⟨w1, z1, rfl, k1, h0_1⟩ := wfKs_cons h0
  obtain ⟨freq, rfl, p1⟩ := wfK_int k1
  cases wfKs_nil h0_1
  obtain ⟨c1, vs1, rfl, h1, e1⟩ := e0
  obtain ⟨w2, z2, rfl, k2, h1_2⟩ := wfKs_cons h1
  obtain ⟨y, rfl, p2⟩ := wfK_int k2
  obtain ⟨w3, z3, rfl, k3, h1_2_3⟩ := wfKs_cons h1_2
  obtain ⟨m, rfl, p3⟩ := wfK_int k3
  obtain ⟨w4, z4, rfl, k4, h1_2_3_4⟩ := wfKs_cons h1_2_3
  obtain ⟨d, rfl, p4⟩ := wfK_int k4
  cases wfKs_nil h1_2_3_4
  obtain ⟨c2, vs2, rfl, h2, e2⟩ := e1
  obtain ⟨w5, z5, rfl, k5, h2_5⟩ := wfKs_cons h2
  obtain ⟨days, rfl, p5⟩ := wfK_int k5
  cases wfKs_nil h2_5
  have h2 : _ = [] := e2
  subst h2
  exact Known.at pyears_known (a := (freq, y, m, d, days)) rfl rfl ⟨⟨p1, p2, p3, p4, p5⟩⟩

set_option maxRecDepth 100000 in
theorem wholeYears_lifted (os : Os) (started : os.Started) (H : Type) (enc : TypeId × Value → H) :
    ReturnsInHanded {} Try.checked os 9 .any (Rows.wholeYearsSpec.pre6 enc Try.prog Try.f9 Rows.wholeYearsRow.domain false) (Rows.wholeYearsSpec.post enc Try.prog Try.f9 false true false false) :=
  law_lifted (C := Try.checked) (tks := [(false, [.int .i64]), (true, [.int .i64, .int .i64, .int .i64]), (false, [.int .i64])]) 8 4 ownT started (by kernel_rfl) Try.func9 laidT (by kernel_rfl) (by kernel_rfl) (by kernel_rfl) rfl
    (fun ds h => by match ds, h with | [_, _, _], _ => exact ⟨rfl, rfl, rfl⟩)
    (ChangeSpec.witness6 (enc := enc) (C := Try.checked) false ⟨#[], #[.int .i64 0, (.agg #[.int .i64 0, .int .i64 0, .int .i64 0]), .int .i64 0], []⟩ 8 (by kernel_rfl) (by kernel_rfl) (by kernel_rfl) (by kernel_rfl)) wholeYears_ok

theorem wholeYears_holds : Rows.WholeYearsSaid :=
  OpenClaim.holds_of_wide 9 Try.f9 rfl rfl rfl rfl rfl rfl rfl ⟨rfl, rfl, rfl, rfl, rfl⟩ rfl rfl rfl rfl rfl (by kernel_rfl) Try.func9 (by kernel_rfl)
    (of_decide_eq_true (by kernel_rfl)) (by unfold Func.isWrapper; rw [if_neg (by decide +kernel)]; exact ⟨rfl, rfl⟩)
    (fun os started H enc _ => wholeYears_lifted os started H enc)
end Go.Proofs.Ytfjcjbmamdfhoaa
