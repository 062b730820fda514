/- PieceShifts: a function that is shifted has at each number the value that it had so many further on. Conditions: none beyond those of the given statement. -/
import Derived.Test.YtibdbmalmmokmaaPc7
import Derived.Test.YtibdbmalmmokmaaRows
namespace Go.Proofs.Ytibdbmalmmokmaa
open Go.Rx

theorem pieceShifts_ok : ∀ us, argsWf [(false, [.sl [.int .i64, .int .i64, .int .i64]]), (false, [.int .i64]), (false, [.int .i64])] us → FnOK Try.prog 8 us (.bool true) := by
  intro us h
  obtain ⟨c0, vs0, rfl, h0, e0⟩ := h
  obtain ⟨w1, z1, rfl, k1, h0_1⟩ := wfKs_cons h0
  obtain ⟨l, rfl, p1⟩ := wfL_of k1
  cases wfKs_nil h0_1
  obtain ⟨c1, vs1, rfl, h1, e1⟩ := e0
  obtain ⟨w2, z2, rfl, k2, h1_2⟩ := wfKs_cons h1
  obtain ⟨b, rfl, p2⟩ := wfK_int k2
  cases wfKs_nil h1_2
  obtain ⟨c2, vs2, rfl, h2, e2⟩ := e1
  obtain ⟨w3, z3, rfl, k3, h2_3⟩ := wfKs_cons h2
  obtain ⟨x, rfl, p3⟩ := wfK_int k3
  cases wfKs_nil h2_3
  have h2 : _ = [] := e2
  subst h2
  exact Known.at lqs_known (a := (l, b, x)) rfl rfl ⟨⟨p1, p2, p3⟩⟩

set_option maxRecDepth 100000 in
theorem pieceShifts_lifted (os : Os) (started : os.Started) (H : Type) (enc : TypeId × Value → H) :
    ReturnsInHanded {} Try.checked os 8 .any (Rows.pieceShiftsSpec.pre6 enc Try.prog Try.f8 Rows.pieceShiftsRow.domain false) (Rows.pieceShiftsSpec.post enc Try.prog Try.f8 false true false false) :=
  law_lifted (C := Try.checked) (tks := [(false, [.sl [.int .i64, .int .i64, .int .i64]]), (false, [.int .i64]), (false, [.int .i64])]) (hL := laidI) (fun _ => trivial) 8 4 ownT started (by kernel_rfl) Try.func8 laidT (by kernel_rfl) (by kernel_rfl) (by kernel_rfl) rfl
    (fun ds h => by match ds, h with | [_, _, _], _ => exact ⟨rfl, rfl, rfl⟩)
    (ChangeSpec.witness6 (enc := enc) (C := Try.checked) false ⟨#[], #[.slice none 0 0, .int .i64 0, .int .i64 0], []⟩ 8 (by kernel_rfl) (by kernel_rfl) (by kernel_rfl) (by kernel_rfl)) pieceShifts_ok

theorem pieceShifts_holds : Rows.PieceShiftsSaid :=
  OpenClaim.holds_of_wide 8 Try.f8 rfl rfl rfl rfl rfl rfl rfl ⟨rfl, rfl, rfl, rfl, rfl⟩ rfl rfl rfl rfl rfl (by kernel_rfl) Try.func8 (by kernel_rfl)
    (of_decide_eq_true (by kernel_rfl)) (by unfold Func.isWrapper; rw [if_neg (by decide +kernel)]; exact ⟨rfl, rfl⟩)
    (fun os started H enc _ => pieceShifts_lifted os started H enc)
end Go.Proofs.Ytibdbmalmmokmaa
