/- Year, checks: of any payslip and any number of contributions the statement's function returns true. -/
import Derived.Test.YtkmiakgpkgmcbaaYw
import Derived.Test.YtkmiakgpkgmcbaaRows
namespace Go.Proofs.Ytkmiakgpkgmcbaa
open Go.Rx

theorem yearChecks_ok : ∀ us, argsWf [(true, [.int .i64, .int .i64, .int .i64, .int .i64, .int .i64, .int .i64, .sl [.int .i64, .int .i64], .int .i64, .sl [.int .i64, .int .i64, .int .i64, .int .i64, .int .i64, .int .i64], .int .i64]), (false, [.int .i64])] us → FnOK Try.prog 3 us (.bool true) := by
  intro us h
  obtain ⟨c0, vs0, rfl, h0, e0⟩ := h
  obtain ⟨w1, z1, rfl, k1, h0_1⟩ := wfKs_cons h0
  obtain ⟨p, rfl, p1⟩ := wfK_int k1
  obtain ⟨w2, z2, rfl, k2, h0_1_2⟩ := wfKs_cons h0_1
  obtain ⟨c, rfl, p2⟩ := wfK_int k2
  obtain ⟨w3, z3, rfl, k3, h0_1_2_3⟩ := wfKs_cons h0_1_2
  obtain ⟨t, rfl, p3⟩ := wfK_int k3
  obtain ⟨w4, z4, rfl, k4, h0_1_2_3_4⟩ := wfKs_cons h0_1_2_3
  obtain ⟨s, rfl, p4⟩ := wfK_int k4
  obtain ⟨w5, z5, rfl, k5, h0_1_2_3_4_5⟩ := wfKs_cons h0_1_2_3_4
  obtain ⟨x, rfl, p5⟩ := wfK_int k5
  obtain ⟨w6, z6, rfl, k6, h0_1_2_3_4_5_6⟩ := wfKs_cons h0_1_2_3_4_5
  obtain ⟨h, rfl, p6⟩ := wfK_int k6
  obtain ⟨w7, z7, rfl, k7, h0_1_2_3_4_5_6_7⟩ := wfKs_cons h0_1_2_3_4_5_6
  obtain ⟨S, rfl, p7⟩ := wfL_of k7
  obtain ⟨w8, z8, rfl, k8, h0_1_2_3_4_5_6_7_8⟩ := wfKs_cons h0_1_2_3_4_5_6_7
  obtain ⟨n, rfl, p8⟩ := wfK_int k8
  obtain ⟨w9, z9, rfl, k9, h0_1_2_3_4_5_6_7_8_9⟩ := wfKs_cons h0_1_2_3_4_5_6_7_8
  obtain ⟨T, rfl, p9⟩ := wfL_of k9
  obtain ⟨w10, z10, rfl, k10, h0_1_2_3_4_5_6_7_8_9_10⟩ := wfKs_cons h0_1_2_3_4_5_6_7_8_9
  obtain ⟨y, rfl, p10⟩ := wfK_int k10
  cases wfKs_nil h0_1_2_3_4_5_6_7_8_9_10
  obtain ⟨c1, vs1, rfl, h1, e1⟩ := e0
  obtain ⟨w11, z11, rfl, k11, h1_11⟩ := wfKs_cons h1
  obtain ⟨m, rfl, p11⟩ := wfK_int k11
  cases wfKs_nil h1_11
  have h2 : _ = [] := e1
  subst h2
  exact Known.at lychecks_known (a := (p, c, t, s, x, h, S, n, T, y, m)) rfl rfl ⟨⟨p1, p2, p3, p4, p5, p6, p7, p8, p9, p10, p11⟩⟩

set_option maxRecDepth 100000 in
theorem yearChecks_lifted (os : Os) (started : os.Started) (H : Type) (enc : TypeId × Value → H) :
    ReturnsInHanded {} Try.checked os 3 .any (Rows.yearChecksSpec.pre6 enc Try.prog Try.f3 Rows.yearChecksRow.domain false) (Rows.yearChecksSpec.post enc Try.prog Try.f3 false true false false) :=
  law_lifted (C := Try.checked) (tks := [(true, [.int .i64, .int .i64, .int .i64, .int .i64, .int .i64, .int .i64, .sl [.int .i64, .int .i64], .int .i64, .sl [.int .i64, .int .i64, .int .i64, .int .i64, .int .i64, .int .i64], .int .i64]), (false, [.int .i64])]) (hL := laidI) (fun _ => trivial) 8 4 ownT started (by kernel_rfl) Try.func3 laidT (by kernel_rfl) (by kernel_rfl) (by kernel_rfl) rfl
    (fun ds h => by match ds, h with | [_, _], _ => exact ⟨rfl, rfl, rfl⟩)
    (ChangeSpec.witness6 (enc := enc) (C := Try.checked) false ⟨#[], #[(.agg #[.int .i64 0, .int .i64 0, .int .i64 0, .int .i64 0, .int .i64 0, .int .i64 0, .slice none 0 0, .int .i64 0, .slice none 0 0, .int .i64 0]), .int .i64 0], []⟩ 8 (by kernel_rfl) (by kernel_rfl) (by kernel_rfl) (by kernel_rfl)) yearChecks_ok

theorem yearChecks_holds : Rows.YearChecksSaid :=
  OpenClaim.holds_of_wide 3 Try.f3 rfl rfl rfl rfl rfl rfl rfl ⟨rfl, rfl, rfl, rfl, rfl⟩ rfl rfl rfl rfl rfl (by kernel_rfl) Try.func3 (by kernel_rfl)
    (of_decide_eq_true (by kernel_rfl)) (by unfold Func.isWrapper; rw [if_neg (by decide +kernel)]; exact ⟨rfl, rfl⟩)
    (fun os started H enc _ => yearChecks_lifted os started H enc)
end Go.Proofs.Ytkmiakgpkgmcbaa
