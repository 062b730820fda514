/- The law 'DateWorks' holds: of all arguments it answers true. -/
import Derived.Test.YtmoaahhlilaopaaDate4
import Derived.Test.YtmoaahhlilaopaaRows
namespace Go.Proofs.Ytmoaahhlilaopaa
open Go.Rx

theorem dateWorks_ok : ∀ us, argsWf [(true, [.int .i64, .int .i64, .int .i64]), (false, [.int .i64])] us → FnOK Try.prog 9 us (.bool true) := by
  intro us h
  obtain ⟨c0, vs0, rfl, h0, e0⟩ := h
  obtain ⟨w1, z1, rfl, k1, h0_1⟩ := wfKs_cons h0
  obtain ⟨y, rfl, p1⟩ := wfK_int k1
  obtain ⟨w2, z2, rfl, k2, h0_1_2⟩ := wfKs_cons h0_1
  obtain ⟨m, rfl, p2⟩ := wfK_int k2
  obtain ⟨w3, z3, rfl, k3, h0_1_2_3⟩ := wfKs_cons h0_1_2
  obtain ⟨d, rfl, p3⟩ := wfK_int k3
  cases wfKs_nil h0_1_2_3
  obtain ⟨c1, vs1, rfl, h1, e1⟩ := e0
  obtain ⟨w4, z4, rfl, k4, h1_4⟩ := wfKs_cons h1
  obtain ⟨long, rfl, p4⟩ := wfK_int k4
  cases wfKs_nil h1_4
  have h2 : _ = [] := e1
  subst h2
  exact Known.at dworkl_known (a := (y, m, d, long)) rfl rfl ⟨⟨p1, p2, p3, p4⟩⟩

set_option maxRecDepth 100000 in
theorem dateWorks_lifted (os : Os) (started : os.Started) (H : Type) (enc : TypeId × Value → H) :
    ReturnsInHanded {} Try.checked os 9 .any (Rows.dateWorksSpec.pre6 enc Try.prog Try.f9 Rows.dateWorksRow.domain false) (Rows.dateWorksSpec.post enc Try.prog Try.f9 false true false false) :=
  law_lifted (C := Try.checked) (tks := [(true, [.int .i64, .int .i64, .int .i64]), (false, [.int .i64])]) 8 4 ownT started (by kernel_rfl) Try.func9 laidT (by kernel_rfl) (by kernel_rfl) (by kernel_rfl) rfl
    (fun ds h => by match ds, h with | [_, _], _ => exact ⟨rfl, rfl, rfl⟩)
    (ChangeSpec.witness6 (enc := enc) (C := Try.checked) false ⟨#[], #[(.agg #[.int .i64 0, .int .i64 0, .int .i64 0]), .int .i64 0], []⟩ 8 (by kernel_rfl) (by kernel_rfl) (by kernel_rfl) (by kernel_rfl)) dateWorks_ok

theorem dateWorks_holds : Rows.DateWorksSaid :=
  OpenClaim.holds_of_wide 9 Try.f9 rfl rfl rfl rfl rfl rfl rfl ⟨rfl, rfl, rfl, rfl, rfl⟩ rfl rfl rfl rfl rfl (by kernel_rfl) Try.func9 (by kernel_rfl)
    (of_decide_eq_true (by kernel_rfl)) (by unfold Func.isWrapper; rw [if_neg (by decide +kernel)]; exact ⟨rfl, rfl⟩)
    (fun os started H enc _ => dateWorks_lifted os started H enc)
end Go.Proofs.Ytmoaahhlilaopaa
