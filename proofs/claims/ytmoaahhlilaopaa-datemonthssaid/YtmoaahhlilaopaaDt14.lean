/- The chapter of days: the row of DateMonths. -/
import Derived.Test.YtmoaahhlilaopaaDt8
import Derived.Test.YtmoaahhlilaopaaDt13
namespace Go.Proofs.Ytmoaahhlilaopaa
open Go.ChangeShapes Go.WideShapes Go.ChangeAt Go.RowKit Go.Rx

set_option maxRecDepth 100000 in
theorem months_lifted (os : Os) (started : os.Started) (H : Type) (enc : TypeId × Value → H) :
    ReturnsInHanded {} Try.checked os 5 .any (Rows.dateMonthsSpec.pre6 enc Try.prog Try.f5 Rows.dateMonthsRow.domain false) (Rows.dateMonthsSpec.post enc Try.prog Try.f5 false true false false) := by
  refine returnsInHanded_of_change (C := Try.checked) Try.own started (by kernel_rfl) Try.func5
    (ChangeSpec.witness6 (enc := enc) (C := Try.checked) false ⟨#[], #[.agg #[.int .i64 0, .int .i64 0, .int .i64 0], .int .i64 0], []⟩ 8 (by kernel_rfl) (by kernel_rfl) (by kernel_rfl) (by kernel_rfl)) ?_
  intro W base args ds gs before hval0 hW hcnd _
  have hval : ∀ (j : Nat) t v, Try.f5.params[j]? = some t → args[j]? = some v → Value.okWide Try.prog W .any base t v := hval0
  have hW' := hW
  obtain ⟨p, q, hA0, hV, rfl, hfz, hnd⟩ := hW
  have hA : DataW.TrodAll enc Try.prog W 0 (fun _ => true) true Try.f5.params.toList args.toList ds p := hA0
  rw [Try.params5] at hA hval
  obtain ⟨v0, v1, d0, d1, p0, p1, rfl, rfl, rfl, h0, h1⟩ := trodAll_two hA
  obtain ⟨rfl, rfl⟩ := trodVars_none hV
  obtain ⟨a, rfl, ha⟩ := date_of (hval 0 23 v0 rfl rfl)
  obtain ⟨n, rfl, rfl, rfl, wn⟩ := open_int Try.underlying3 (hval 1 3 v1 rfl rfl) h1
  clear hA0 hval0
  simp only [List.append_nil] at hW'
  have hlt : ∀ x ∈ p0, x.block < W.heap.size := fun x hx => by simpa using hW'.lt x hx
  refine (mlaw_ok (a, n) (inR_of wn) (fun b => b < W.heap.size) W #[.agg #[.int .i64 a.1, .int .i64 a.2.1, .int .i64 a.2.2], .int .i64 n] (fun b hb => hb) rfl (fun i => ?_)).mono fun e W' ⟨x, I', he, hfr, _, _, hx⟩ => ?_
  · match i with
    | 0 => exact date_conc a
    | 1 => exact .int _ _
    | i + 2 => exact .any _
  · subst he
    have hx := true_of hx
    subst hx
    have bel := below_of hfr
    exact ⟨_, rfl, _, _, _, [], p0 ++ [], [], hW', trodAll_mk1 (shut_bool Try.underlying4 true), trodAll_mk2 (Below.trod Try.laidOut (by kernel_rfl) (of_decide_eq_true (by kernel_rfl)) h0 bel hlt) (shut_int Try.underlying3 wn), rfl, bel.frame _, fun h => by cases h⟩

theorem months_holds : Rows.DateMonthsSaid :=
  OpenClaim.holds_of_wide 5 Try.f5 rfl rfl rfl rfl rfl rfl rfl ⟨rfl, rfl, rfl, rfl, rfl⟩ rfl rfl rfl rfl rfl (by kernel_rfl) Try.func5 (by kernel_rfl)
    (of_decide_eq_true (by kernel_rfl)) (by unfold Func.isWrapper; rw [if_neg (by decide +kernel)]; exact ⟨rfl, rfl⟩)
    (fun os started H enc _ => months_lifted os started H enc)
end Go.Proofs.Ytmoaahhlilaopaa
