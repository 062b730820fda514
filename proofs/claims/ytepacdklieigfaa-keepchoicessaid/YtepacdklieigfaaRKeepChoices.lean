/- What is kept by any choice is the whole without its rates; none keeps less than the worst one. -/
import Derived.Test.YtepacdklieigfaaKc
import Derived.Test.YtepacdklieigfaaRows
namespace Go.Proofs.Ytepacdklieigfaa
open Go.Rx

theorem keepChoices_ok : ∀ us, argsWf [(true, [.sl [.sl [.int .i64, .int .i64, .int .i64]], .sl [.str, .int .i64, .sl [.int .i64, .int .i64, .int .i64], .int .i64, .int .i64, .int .i64], .sl [.str, .int .i64, .int .i64, .int .i64], .int .i64, .int .i64]), (true, [.int .i64, .int .i64, .sl [.int .i64], .int .i64])] us → FnOK Try.prog 4 us (.bool true) := by
  intro us h
  obtain ⟨c0, vs0, rfl, h0, e0⟩ := h
  obtain ⟨w1, z1, rfl, k1, h0_1⟩ := wfKs_cons h0
  obtain ⟨S, rfl, p1⟩ := wfL_of k1
  obtain ⟨w2, z2, rfl, k2, h0_1_2⟩ := wfKs_cons h0_1
  obtain ⟨C, rfl, p2⟩ := wfL_of k2
  obtain ⟨w3, z3, rfl, k3, h0_1_2_3⟩ := wfKs_cons h0_1_2
  obtain ⟨K, rfl, p3⟩ := wfL_of k3
  obtain ⟨w4, z4, rfl, k4, h0_1_2_3_4⟩ := wfKs_cons h0_1_2_3
  obtain ⟨m, rfl, p4⟩ := wfK_int k4
  obtain ⟨w5, z5, rfl, k5, h0_1_2_3_4_5⟩ := wfKs_cons h0_1_2_3_4
  obtain ⟨r, rfl, p5⟩ := wfK_int k5
  cases wfKs_nil h0_1_2_3_4_5
  obtain ⟨c1, vs1, rfl, h1, e1⟩ := e0
  obtain ⟨w6, z6, rfl, k6, h1_6⟩ := wfKs_cons h1
  obtain ⟨g, rfl, p6⟩ := wfK_int k6
  obtain ⟨w7, z7, rfl, k7, h1_6_7⟩ := wfKs_cons h1_6
  obtain ⟨h, rfl, p7⟩ := wfK_int k7
  obtain ⟨w8, z8, rfl, k8, h1_6_7_8⟩ := wfKs_cons h1_6_7
  obtain ⟨D, rfl, p8⟩ := wfL_of k8
  obtain ⟨w9, z9, rfl, k9, h1_6_7_8_9⟩ := wfKs_cons h1_6_7_8
  obtain ⟨q, rfl, p9⟩ := wfK_int k9
  cases wfKs_nil h1_6_7_8_9
  have h2 : _ = [] := e1
  subst h2
  exact Known.at lchoices_known (a := (S, C, K, m, r, g, h, D, q)) rfl rfl ⟨⟨p1, p2, p3, p4, p5, p6, p7, p8, p9⟩⟩

set_option maxRecDepth 100000 in
theorem keepChoices_lifted (os : Os) (started : os.Started) (H : Type) (enc : TypeId × Value → H) :
    ReturnsInHanded {} Try.checked os 4 .any (Rows.keepChoicesSpec.pre6 enc Try.prog Try.f4 Rows.keepChoicesRow.domain false) (Rows.keepChoicesSpec.post enc Try.prog Try.f4 false true false false) :=
  law_lifted (C := Try.checked) (tks := [(true, [.sl [.sl [.int .i64, .int .i64, .int .i64]], .sl [.str, .int .i64, .sl [.int .i64, .int .i64, .int .i64], .int .i64, .int .i64, .int .i64], .sl [.str, .int .i64, .int .i64, .int .i64], .int .i64, .int .i64]), (true, [.int .i64, .int .i64, .sl [.int .i64], .int .i64])]) (hL := laidI) (fun _ => trivial) 8 4 ownT started (by kernel_rfl) Try.func4 laidT (by kernel_rfl) (by kernel_rfl) (by kernel_rfl) rfl
    (fun ds h => by match ds, h with | [_, _], _ => exact ⟨rfl, rfl, rfl⟩)
    (ChangeSpec.witness6 (enc := enc) (C := Try.checked) false ⟨#[], #[(.agg #[.slice none 0 0, .slice none 0 0, .slice none 0 0, .int .i64 0, .int .i64 0]), (.agg #[.int .i64 0, .int .i64 0, .slice none 0 0, .int .i64 0])], []⟩ 8 (by kernel_rfl) (by kernel_rfl) (by kernel_rfl) (by kernel_rfl)) keepChoices_ok

theorem keepChoices_holds : Rows.KeepChoicesSaid :=
  OpenClaim.holds_of_wide 4 Try.f4 rfl rfl rfl rfl rfl rfl rfl ⟨rfl, rfl, rfl, rfl, rfl⟩ rfl rfl rfl rfl rfl (by kernel_rfl) Try.func4 (by kernel_rfl)
    (of_decide_eq_true (by kernel_rfl)) (by unfold Func.isWrapper; rw [if_neg (by decide +kernel)]; exact ⟨rfl, rfl⟩)
    (fun os started H enc _ => keepChoices_lifted os started H enc)
end Go.Proofs.Ytepacdklieigfaa
