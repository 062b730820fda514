/- YearOwn: POSTED IS POSTED: what is told of a year is nobody's: changed outside it changes nothing. Conditions: none beyond those of the given statement. -/
import Derived.Test.YtkmiakgpkgmcbaaYown
import Derived.Test.YtkmiakgpkgmcbaaRows
namespace Go.Proofs.Ytkmiakgpkgmcbaa
open Go.Rx

theorem yearOwn_ok : ∀ us, argsWf [(false, [.int .i64]), (false, [.sl [.int .i64, .int .i64, .int .i64, .int .i64, .int .i64, .int .i64, .sl [.int .i64, .int .i64], .int .i64, .sl [.int .i64, .int .i64, .int .i64, .int .i64, .int .i64, .int .i64], .int .i64]])] us → FnOK Try.prog 6 us (.bool true) := by
  intro us h
  obtain ⟨c0, vs0, rfl, h0, e0⟩ := h
  obtain ⟨w1, z1, rfl, k1, h0_1⟩ := wfKs_cons h0
  obtain ⟨n, rfl, p1⟩ := wfK_int k1
  cases wfKs_nil h0_1
  obtain ⟨c1, vs1, rfl, h1, e1⟩ := e0
  obtain ⟨w2, z2, rfl, k2, h1_2⟩ := wfKs_cons h1
  obtain ⟨L, rfl, p2⟩ := wfL_of k2
  cases wfKs_nil h1_2
  have h2 : _ = [] := e1
  subst h2
  exact Known.at lown_known (a := (n, L)) rfl rfl ⟨⟨p1, p2⟩⟩

set_option maxRecDepth 100000 in
theorem yearOwn_lifted (os : Os) (started : os.Started) (H : Type) (enc : TypeId × Value → H) :
    ReturnsInHanded {} Try.checked os 6 .any (Rows.yearOwnSpec.pre6 enc Try.prog Try.f6 Rows.yearOwnRow.domain false) (Rows.yearOwnSpec.post enc Try.prog Try.f6 false true false false) :=
  law_lifted (C := Try.checked) (tks := [(false, [.int .i64]), (false, [.sl [.int .i64, .int .i64, .int .i64, .int .i64, .int .i64, .int .i64, .sl [.int .i64, .int .i64], .int .i64, .sl [.int .i64, .int .i64, .int .i64, .int .i64, .int .i64, .int .i64], .int .i64]])]) (hL := laidI) (fun _ => trivial) 8 4 ownT started (by kernel_rfl) Try.func6 laidT (by kernel_rfl) (by kernel_rfl) (by kernel_rfl) rfl
    (fun ds h => by match ds, h with | [_, _], _ => exact ⟨rfl, rfl, rfl⟩)
    (ChangeSpec.witness6 (enc := enc) (C := Try.checked) false ⟨#[], #[.int .i64 0, .slice none 0 0], []⟩ 8 (by kernel_rfl) (by kernel_rfl) (by kernel_rfl) (by kernel_rfl)) yearOwn_ok

theorem yearOwn_holds : Rows.YearOwnSaid :=
  OpenClaim.holds_of_wide 6 Try.f6 rfl rfl rfl rfl rfl rfl rfl ⟨rfl, rfl, rfl, rfl, rfl⟩ rfl rfl rfl rfl rfl (by kernel_rfl) Try.func6 (by kernel_rfl)
    (of_decide_eq_true (by kernel_rfl)) (by unfold Func.isWrapper; rw [if_neg (by decide +kernel)]; exact ⟨rfl, rfl⟩)
    (fun os started H enc _ => yearOwn_lifted os started H enc)
end Go.Proofs.Ytkmiakgpkgmcbaa

