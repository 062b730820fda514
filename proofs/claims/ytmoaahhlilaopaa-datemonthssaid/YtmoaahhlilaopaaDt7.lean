/- The chapter of days: the row of DateBack. -/
import Derived.Test.YtmoaahhlilaopaaDt6
import Derived.Test.YtmoaahhlilaopaaRows
import Derived.ProofKit
namespace Go.Proofs.Ytmoaahhlilaopaa
open Go.ChangeShapes Go.WideShapes Go.ChangeAt Go.RowKit Go.Rx

theorem Try.own : ownKnob Try.prog.godebug = none := by kernel_rfl
theorem Try.laidOut : laidOutB Try.prog = true := by kernel_rfl

theorem inR_of {a : Int} (h : (Lit.int .i64 a).wf = true) : inR a := by
  simp only [Lit.wf, Bool.and_eq_true, decide_eq_true_eq] at h
  have h1 : IntKind.i64.min = -9223372036854775808 := by decide
  have h2 : IntKind.i64.max = 9223372036854775807 := by decide
  rw [h1, h2] at h
  exact h

theorem below_of {W W' : World} (h : Fr W.heap.size (fun _ => False) W W') : Below W.heap.size W W' :=
  ⟨h.os, h.tape, h.output, h.size, fun k hk => h.block k hk (fun h => h)⟩

theorem true_of {I : Nat → Prop} {W : World} {x : Value} (h : Conc I W x (.bool true)) : x = .bool true := by cases h; rfl

set_option maxRecDepth 100000 in
theorem back_lifted (os : Os) (started : os.Started) (H : Type) (enc : TypeId × Value → H) :
    ReturnsInHanded {} Try.checked os 4 .any (Rows.dateBackSpec.pre6 enc Try.prog Try.f4 Rows.dateBackRow.domain false) (Rows.dateBackSpec.post enc Try.prog Try.f4 false true false false) := by
  refine returnsInHanded_of_change (C := Try.checked) Try.own started (by kernel_rfl) Try.func4
    (ChangeSpec.witness6 (enc := enc) (C := Try.checked) false ⟨#[], #[.int .i64 0], []⟩ 8 (by kernel_rfl) (by kernel_rfl) (by kernel_rfl) (by kernel_rfl)) ?_
  intro W base args ds gs before hval0 hW hcnd _
  have hval : ∀ (j : Nat) t v, Try.f4.params[j]? = some t → args[j]? = some v → Value.okWide Try.prog W .any base t v := hval0
  have hW' := hW
  obtain ⟨p, q, hA0, hV, rfl, hfz, hnd⟩ := hW
  have hA : DataW.TrodAll enc Try.prog W 0 (fun _ => true) true Try.f4.params.toList args.toList ds p := hA0
  rw [Try.params4] at hA hval
  obtain ⟨v0, d0, rfl, rfl, h0⟩ := trodAll_one hA
  obtain ⟨rfl, rfl⟩ := trodVars_none hV
  obtain ⟨a, rfl, rfl, rfl, wa⟩ := open_int Try.underlying3 (hval 0 3 v0 rfl rfl) h0
  clear hA0 hval0
  simp only [List.append_nil] at hW'
  refine (back_ok a (inR_of wa) (fun b => b < W.heap.size) W #[.int .i64 a] (fun b hb => hb) rfl (fun i => ?_)).mono fun e W' ⟨x, I', he, hfr, _, _, hx⟩ => ?_
  · match i with
    | 0 => exact .int _ _
    | i + 1 => exact .any _
  · subst he
    have hx := true_of hx
    subst hx
    have bel := below_of hfr
    exact ⟨_, rfl, _, _, _, [], [], [], hW', trodAll_mk1 (shut_bool Try.underlying4 true), trodAll_mk1 (shut_int Try.underlying3 wa), rfl, bel.frame _, fun h => by cases h⟩

theorem back_holds : Rows.DateBackSaid :=
  OpenClaim.holds_of_wide 4 Try.f4 rfl rfl rfl rfl rfl rfl rfl ⟨rfl, rfl, rfl, rfl, rfl⟩ rfl rfl rfl rfl rfl (by kernel_rfl) Try.func4 (by kernel_rfl)
    (of_decide_eq_true (by kernel_rfl)) (by unfold Func.isWrapper; rw [if_neg (by decide +kernel)]; exact ⟨rfl, rfl⟩)
    (fun os started H enc _ => back_lifted os started H enc)
end Go.Proofs.Ytmoaahhlilaopaa
