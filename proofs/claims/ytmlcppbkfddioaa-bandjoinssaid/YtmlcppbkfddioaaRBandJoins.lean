/- The law 'BandJoins' holds: of all arguments it answers true. -/
import Derived.Test.YtmlcppbkfddioaaBand4
import Derived.Test.YtmlcppbkfddioaaRows
namespace Go.Proofs.Ytmlcppbkfddioaa
open Go.Rx

theorem bandJoins_ok : ∀ us, argsWf [(false, [.sl [.int .i64, .int .i64, .int .i64]]), (false, [.int .i64])] us → FnOK Try.prog 7 us (.bool true) := by
  intro us h
  obtain ⟨c0, vs0, rfl, h0, e0⟩ := h
  obtain ⟨w1, z1, rfl, k1, h0_1⟩ := wfKs_cons h0
  obtain ⟨l, rfl, p1⟩ := wfL_of k1
  cases wfKs_nil h0_1
  obtain ⟨c1, vs1, rfl, h1, e1⟩ := e0
  obtain ⟨w2, z2, rfl, k2, h1_2⟩ := wfKs_cons h1
  obtain ⟨x, rfl, p2⟩ := wfK_int k2
  cases wfKs_nil h1_2
  have h2 : _ = [] := e1
  subst h2
  exact Known.at bjoins_known (a := (l, x)) rfl rfl ⟨⟨p1, p2⟩⟩

set_option maxRecDepth 100000 in
theorem bandJoins_lifted (os : Os) (started : os.Started) (H : Type) (enc : TypeId × Value → H) :
    ReturnsInHanded {} Try.checked os 7 .any (Rows.bandJoinsSpec.pre6 enc Try.prog Try.f7 Rows.bandJoinsRow.domain false) (Rows.bandJoinsSpec.post enc Try.prog Try.f7 false true false false) :=
  law_lifted (C := Try.checked) (tks := [(false, [.sl [.int .i64, .int .i64, .int .i64]]), (false, [.int .i64])]) 8 4 ownT started (by kernel_rfl) Try.func7 laidT (by kernel_rfl) (by kernel_rfl) (by kernel_rfl) rfl
    (fun ds h => by match ds, h with | [_, _], _ => exact ⟨rfl, rfl, rfl⟩)
    (ChangeSpec.witness6 (enc := enc) (C := Try.checked) false ⟨#[], #[.slice none 0 0, .int .i64 0], []⟩ 8 (by kernel_rfl) (by kernel_rfl) (by kernel_rfl) (by kernel_rfl)) bandJoins_ok

theorem bandJoins_holds : Rows.BandJoinsSaid :=
  OpenClaim.holds_of_wide 7 Try.f7 rfl rfl rfl rfl rfl rfl rfl ⟨rfl, rfl, rfl, rfl, rfl⟩ rfl rfl rfl rfl rfl (by kernel_rfl) Try.func7 (by kernel_rfl)
    (of_decide_eq_true (by kernel_rfl)) (by unfold Func.isWrapper; rw [if_neg (by decide +kernel)]; exact ⟨rfl, rfl⟩)
    (fun os started H enc _ => bandJoins_lifted os started H enc)
end Go.Proofs.Ytmlcppbkfddioaa
