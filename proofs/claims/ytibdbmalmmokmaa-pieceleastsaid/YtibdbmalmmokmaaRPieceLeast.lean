/- PieceLeast: THE LESSER AT EACH NUMBER: also about where they cross, between two numbers. Conditions: none beyond those of the given statement. -/
import Derived.Test.YtibdbmalmmokmaaPc7
import Derived.Test.YtibdbmalmmokmaaRows
namespace Go.Proofs.Ytibdbmalmmokmaa
open Go.Rx

theorem pieceLeast_ok : ∀ us, argsWf [(false, [.sl [.int .i64, .int .i64, .int .i64]]), (false, [.sl [.int .i64, .int .i64, .int .i64]]), (false, [.int .i64])] us → FnOK Try.prog 5 us (.bool true) := by
  intro us h
  obtain ⟨c0, vs0, rfl, h0, e0⟩ := h
  obtain ⟨w1, z1, rfl, k1, h0_1⟩ := wfKs_cons h0
  obtain ⟨l, rfl, p1⟩ := wfL_of k1
  cases wfKs_nil h0_1
  obtain ⟨c1, vs1, rfl, h1, e1⟩ := e0
  obtain ⟨w2, z2, rfl, k2, h1_2⟩ := wfKs_cons h1
  obtain ⟨m, rfl, p2⟩ := wfL_of k2
  cases wfKs_nil h1_2
  obtain ⟨c2, vs2, rfl, h2, e2⟩ := e1
  obtain ⟨w3, z3, rfl, k3, h2_3⟩ := wfKs_cons h2
  obtain ⟨x, rfl, p3⟩ := wfK_int k3
  cases wfKs_nil h2_3
  have h2 : _ = [] := e2
  subst h2
  exact Known.at lql_known (a := (l, m, x)) rfl rfl ⟨⟨p1, p2, p3⟩⟩

set_option maxRecDepth 100000 in
theorem pieceLeast_lifted (os : Os) (started : os.Started) (H : Type) (enc : TypeId × Value → H) :
    ReturnsInHanded {} Try.checked os 5 .any (Rows.pieceLeastSpec.pre6 enc Try.prog Try.f5 Rows.pieceLeastRow.domain false) (Rows.pieceLeastSpec.post enc Try.prog Try.f5 false true false false) :=
  law_lifted (C := Try.checked) (tks := [(false, [.sl [.int .i64, .int .i64, .int .i64]]), (false, [.sl [.int .i64, .int .i64, .int .i64]]), (false, [.int .i64])]) (hL := laidI) (fun _ => trivial) 8 4 ownT started (by kernel_rfl) Try.func5 laidT (by kernel_rfl) (by kernel_rfl) (by kernel_rfl) rfl
    (fun ds h => by match ds, h with | [_, _, _], _ => exact ⟨rfl, rfl, rfl⟩)
    (ChangeSpec.witness6 (enc := enc) (C := Try.checked) false ⟨#[], #[.slice none 0 0, .slice none 0 0, .int .i64 0], []⟩ 8 (by kernel_rfl) (by kernel_rfl) (by kernel_rfl) (by kernel_rfl)) pieceLeast_ok

theorem pieceLeast_holds : Rows.PieceLeastSaid :=
  OpenClaim.holds_of_wide 5 Try.f5 rfl rfl rfl rfl rfl rfl rfl ⟨rfl, rfl, rfl, rfl, rfl⟩ rfl rfl rfl rfl rfl (by kernel_rfl) Try.func5 (by kernel_rfl)
    (of_decide_eq_true (by kernel_rfl)) (by unfold Func.isWrapper; rw [if_neg (by decide +kernel)]; exact ⟨rfl, rfl⟩)
    (fun os started H enc _ => pieceLeast_lifted os started H enc)
end Go.Proofs.Ytibdbmalmmokmaa
