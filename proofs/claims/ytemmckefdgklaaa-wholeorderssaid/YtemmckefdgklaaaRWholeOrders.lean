/- WholeOrders: WHAT IS TAKEN IS OWED: of each order what it took in all, and its arrears, are all that it ordered; no period leaves less than what is protected, or than there was. Conditions: none beyond those of the given statement. -/
import Derived.Test.YtemmckefdgklaaaOr3
import Derived.Test.YtemmckefdgklaaaRows
namespace Go.Proofs.Ytemmckefdgklaaa
open Go.Rx

theorem wholeOrders_ok : ∀ us, argsWf [(false, [.sl [.int .i64, .int .i64, .int .i64, .int .i64, .int .i64]]), (false, [.sl [.int .i64]]), (false, [.int .i64])] us → FnOK Try.prog 3 us (.bool true) := by
  intro us h
  obtain ⟨c0, vs0, rfl, h0, e0⟩ := h
  obtain ⟨w1, z1, rfl, k1, h0_1⟩ := wfKs_cons h0
  obtain ⟨O, rfl, p1⟩ := wfL_of k1
  cases wfKs_nil h0_1
  obtain ⟨c1, vs1, rfl, h1, e1⟩ := e0
  obtain ⟨w2, z2, rfl, k2, h1_2⟩ := wfKs_cons h1
  obtain ⟨P, rfl, p2⟩ := wfL_of k2
  cases wfKs_nil h1_2
  obtain ⟨c2, vs2, rfl, h2, e2⟩ := e1
  obtain ⟨w3, z3, rfl, k3, h2_3⟩ := wfKs_cons h2
  obtain ⟨prt, rfl, p3⟩ := wfK_int k3
  cases wfKs_nil h2_3
  have h2 : _ = [] := e2
  subst h2
  exact Known.at worders_known (a := (O, P, prt)) rfl rfl ⟨⟨p1, p2, p3⟩⟩

set_option maxRecDepth 100000 in
theorem wholeOrders_lifted (os : Os) (started : os.Started) (H : Type) (enc : TypeId × Value → H) :
    ReturnsInHanded {} Try.checked os 3 .any (Rows.wholeOrdersSpec.pre6 enc Try.prog Try.f3 Rows.wholeOrdersRow.domain false) (Rows.wholeOrdersSpec.post enc Try.prog Try.f3 false true false false) :=
  law_lifted (C := Try.checked) (tks := [(false, [.sl [.int .i64, .int .i64, .int .i64, .int .i64, .int .i64]]), (false, [.sl [.int .i64]]), (false, [.int .i64])]) (hL := laidI) (fun _ => trivial) 8 4 ownT started (by kernel_rfl) Try.func3 laidT (by kernel_rfl) (by kernel_rfl) (by kernel_rfl) rfl
    (fun ds h => by match ds, h with | [_, _, _], _ => exact ⟨rfl, rfl, rfl⟩)
    (ChangeSpec.witness6 (enc := enc) (C := Try.checked) false ⟨#[], #[.slice none 0 0, .slice none 0 0, .int .i64 0], []⟩ 8 (by kernel_rfl) (by kernel_rfl) (by kernel_rfl) (by kernel_rfl)) wholeOrders_ok

theorem wholeOrders_holds : Rows.WholeOrdersSaid :=
  OpenClaim.holds_of_wide 3 Try.f3 rfl rfl rfl rfl rfl rfl rfl ⟨rfl, rfl, rfl, rfl, rfl⟩ rfl rfl rfl rfl rfl (by kernel_rfl) Try.func3 (by kernel_rfl)
    (of_decide_eq_true (by kernel_rfl)) (by unfold Func.isWrapper; rw [if_neg (by decide +kernel)]; exact ⟨rfl, rfl⟩)
    (fun os started H enc _ => wholeOrders_lifted os started H enc)
end Go.Proofs.Ytemmckefdgklaaa

