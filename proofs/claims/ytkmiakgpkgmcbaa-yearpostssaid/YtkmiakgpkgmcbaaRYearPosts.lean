/- Year, posts: payslips that hang together and come in their turn are posted, and the statement's function returns true. -/
import Derived.Test.YtkmiakgpkgmcbaaYq
import Derived.Test.YtkmiakgpkgmcbaaRows
namespace Go.Proofs.Ytkmiakgpkgmcbaa
open Go.Rx

theorem yearPosts_ok : ∀ us, argsWf [(false, [.int .i64]), (false, [.sl [.int .i64, .int .i64, .int .i64, .int .i64, .int .i64, .int .i64, .sl [.int .i64, .int .i64], .int .i64, .sl [.int .i64, .int .i64, .int .i64, .int .i64, .int .i64, .int .i64], .int .i64]])] us → FnOK Try.prog 4 us (.bool true) := by
  intro us h
  obtain ⟨c0, vs0, rfl, h0, e0⟩ := h
  obtain ⟨w1, z1, rfl, k1, h0_1⟩ := wfKs_cons h0
  obtain ⟨n, rfl, p1⟩ := wfK_int k1
  cases wfKs_nil h0_1
  obtain ⟨c1, vs1, rfl, h1, e1⟩ := e0
  obtain ⟨w2, z2, rfl, k2, h1_2⟩ := wfKs_cons h1
  obtain ⟨L, rfl, p2⟩ := wfL_of k2
  cases wfKs_nil h1_2
  have h2 : _ = [] := e1
  subst h2
  exact Known.at lposts_known (a := (n, L)) rfl rfl ⟨⟨p1, p2⟩⟩

set_option maxRecDepth 100000 in
theorem yearPosts_lifted (os : Os) (started : os.Started) (H : Type) (enc : TypeId × Value → H) :
    ReturnsInHanded {} Try.checked os 4 .any (Rows.yearPostsSpec.pre6 enc Try.prog Try.f4 Rows.yearPostsRow.domain false) (Rows.yearPostsSpec.post enc Try.prog Try.f4 false true false false) :=
  law_lifted (C := Try.checked) (tks := [(false, [.int .i64]), (false, [.sl [.int .i64, .int .i64, .int .i64, .int .i64, .int .i64, .int .i64, .sl [.int .i64, .int .i64], .int .i64, .sl [.int .i64, .int .i64, .int .i64, .int .i64, .int .i64, .int .i64], .int .i64]])]) (hL := laidI) (fun _ => trivial) 8 4 ownT started (by kernel_rfl) Try.func4 laidT (by kernel_rfl) (by kernel_rfl) (by kernel_rfl) rfl
    (fun ds h => by match ds, h with | [_, _], _ => exact ⟨rfl, rfl, rfl⟩)
    (ChangeSpec.witness6 (enc := enc) (C := Try.checked) false ⟨#[], #[.int .i64 0, .slice none 0 0], []⟩ 8 (by kernel_rfl) (by kernel_rfl) (by kernel_rfl) (by kernel_rfl)) yearPosts_ok

theorem yearPosts_holds : Rows.YearPostsSaid :=
  OpenClaim.holds_of_wide 4 Try.f4 rfl rfl rfl rfl rfl rfl rfl ⟨rfl, rfl, rfl, rfl, rfl⟩ rfl rfl rfl rfl rfl (by kernel_rfl) Try.func4 (by kernel_rfl)
    (of_decide_eq_true (by kernel_rfl)) (by unfold Func.isWrapper; rw [if_neg (by decide +kernel)]; exact ⟨rfl, rfl⟩)
    (fun os started H enc _ => yearPosts_lifted os started H enc)
end Go.Proofs.Ytkmiakgpkgmcbaa
