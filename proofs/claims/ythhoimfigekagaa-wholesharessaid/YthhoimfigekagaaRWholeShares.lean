/- WholeShares: POSTED STEP BY STEP: a year's contributions, posted by how much they differ each time, are at the end of each period those that are due. Conditions: none beyond those of the given statement. -/
import Derived.Test.YthhoimfigekagaaWs
import Derived.Test.YthhoimfigekagaaRows
namespace Go.Proofs.Ythhoimfigekagaa
open Go.Rx

theorem wholeShares_ok : ∀ us, argsWf [(true, [.sl [.sl [.int .i64, .int .i64, .int .i64]], .sl [.str, .int .i64, .sl [.int .i64, .int .i64, .int .i64], .int .i64, .int .i64, .int .i64], .sl [.str, .int .i64, .int .i64, .int .i64], .int .i64, .int .i64]), (false, [.sl [.int .i64, .int .i64, .int .i64]]), (false, [.sl [.int .i64, .int .i64, .int .i64]])] us → FnOK Try.prog 3 us (.bool true) := by
  intro us h
  obtain ⟨c0, vs0, rfl, h0, e0⟩ := h
  obtain ⟨w1, z1, rfl, k1, h0_1⟩ := wfKs_cons h0
  obtain ⟨S, rfl, p1⟩ := wfL_of k1
  obtain ⟨w2, z2, rfl, k2, h0_1_2⟩ := wfKs_cons h0_1
  obtain ⟨C, rfl, p2⟩ := wfL_of k2
  obtain ⟨w3, z3, rfl, k3, h0_1_2_3⟩ := wfKs_cons h0_1_2
  obtain ⟨K, rfl, p3⟩ := wfL_of k3
  obtain ⟨w4, z4, rfl, k4, h0_1_2_3_4⟩ := wfKs_cons h0_1_2_3
  obtain ⟨m, rfl, p4⟩ := wfK_int k4
  obtain ⟨w5, z5, rfl, k5, h0_1_2_3_4_5⟩ := wfKs_cons h0_1_2_3_4
  obtain ⟨r, rfl, p5⟩ := wfK_int k5
  cases wfKs_nil h0_1_2_3_4_5
  obtain ⟨c1, vs1, rfl, h1, e1⟩ := e0
  obtain ⟨w6, z6, rfl, k6, h1_6⟩ := wfKs_cons h1
  obtain ⟨P, rfl, p6⟩ := wfL_of k6
  cases wfKs_nil h1_6
  obtain ⟨c2, vs2, rfl, h2, e2⟩ := e1
  obtain ⟨w7, z7, rfl, k7, h2_7⟩ := wfKs_cons h2
  obtain ⟨Q, rfl, p7⟩ := wfL_of k7
  cases wfKs_nil h2_7
  have h2 : _ = [] := e2
  subst h2
  exact Known.at lws_known (a := (S, C, K, m, r, P, Q)) rfl rfl ⟨⟨p1, p2, p3, p4, p5, p6, p7⟩⟩

set_option maxRecDepth 100000 in
theorem wholeShares_lifted (os : Os) (started : os.Started) (H : Type) (enc : TypeId × Value → H) :
    ReturnsInHanded {} Try.checked os 3 .any (Rows.wholeSharesSpec.pre6 enc Try.prog Try.f3 Rows.wholeSharesRow.domain false) (Rows.wholeSharesSpec.post enc Try.prog Try.f3 false true false false) :=
  law_lifted (C := Try.checked) (tks := [(true, [.sl [.sl [.int .i64, .int .i64, .int .i64]], .sl [.str, .int .i64, .sl [.int .i64, .int .i64, .int .i64], .int .i64, .int .i64, .int .i64], .sl [.str, .int .i64, .int .i64, .int .i64], .int .i64, .int .i64]), (false, [.sl [.int .i64, .int .i64, .int .i64]]), (false, [.sl [.int .i64, .int .i64, .int .i64]])]) (hL := laidI) (fun _ => trivial) 8 4 ownT started (by kernel_rfl) Try.func3 laidT (by kernel_rfl) (by kernel_rfl) (by kernel_rfl) rfl
    (fun ds h => by match ds, h with | [_, _, _], _ => exact ⟨rfl, rfl, rfl⟩)
    (ChangeSpec.witness6 (enc := enc) (C := Try.checked) false ⟨#[], #[(.agg #[.slice none 0 0, .slice none 0 0, .slice none 0 0, .int .i64 0, .int .i64 0]), .slice none 0 0, .slice none 0 0], []⟩ 8 (by kernel_rfl) (by kernel_rfl) (by kernel_rfl) (by kernel_rfl)) wholeShares_ok

theorem wholeShares_holds : Rows.WholeSharesSaid :=
  OpenClaim.holds_of_wide 3 Try.f3 rfl rfl rfl rfl rfl rfl rfl ⟨rfl, rfl, rfl, rfl, rfl⟩ rfl rfl rfl rfl rfl (by kernel_rfl) Try.func3 (by kernel_rfl)
    (of_decide_eq_true (by kernel_rfl)) (by unfold Func.isWrapper; rw [if_neg (by decide +kernel)]; exact ⟨rfl, rfl⟩)
    (fun os started H enc _ => wholeShares_lifted os started H enc)
end Go.Proofs.Ythhoimfigekagaa
