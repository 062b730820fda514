/- The chapter of days: the row of DateCounts. -/
import Derived.Test.YtmoaahhlilaopaaDt7
namespace Go.Proofs.Ytmoaahhlilaopaa
open Go.ChangeShapes Go.WideShapes Go.ChangeAt Go.RowKit Go.Rx

theorem types23 : Try.prog.cellTypes Try.prog.depth 23 = some [3, 3, 3] := by kernel_rfl
theorem size23 : Try.prog.cellsOf 23 = 3 := by kernel_rfl

theorem int_of {W : World} {base : Nat} {v : Value} (h : Cell.okWide Try.prog W .any base 3 v) : ∃ n, v = .int .i64 n ∧ inR n := by
  have e := Try.underlying3
  cases v <;> simp [Cell.okWide, Cell.ok, e, IntKind.has] at h
  rename_i k n
  obtain ⟨rfl, h1, h2⟩ := h
  have q1 : IntKind.i64.min = -9223372036854775808 := by decide
  have q2 : IntKind.i64.max = 9223372036854775807 := by decide
  exact ⟨n, rfl, by omega, by omega⟩

/-- A day among the arguments. -/
theorem date_of {W : World} {base : Nat} {v : Value} (h : Value.okWide Try.prog W .any base 23 v) : ∃ a : Int × Int × Int, v = .agg #[.int .i64 a.1, .int .i64 a.2.1, .int .i64 a.2.2] ∧ inR a.1 ∧ inR a.2.1 ∧ inR a.2.2 := by
  have hs : ∃ fs, Try.prog.underlying 23 = some (.struct fs) := ⟨_, Try.underlying23⟩
  obtain ⟨fs, hs⟩ := hs
  simp only [Value.okWide, hs] at h
  obtain ⟨cs, rfl, hl, ts, ht, _, hc⟩ := h
  rw [types23] at ht
  cases ht
  rw [size23] at hl
  have get : ∀ i, i < 3 → ∃ n, cs[i]? = some (.int .i64 n) ∧ inR n := by
    intro i hi
    have hi' : i < cs.size := by omega
    obtain ⟨u, hu, hok⟩ := hc i cs[i] (Array.getElem?_eq_getElem hi')
    have : u = 3 := by
      match i, hi with
      | 0, _ | 1, _ | 2, _ => simpa using hu.symm
    subst this
    obtain ⟨n, e, hn⟩ := int_of hok
    exact ⟨n, by rw [Array.getElem?_eq_getElem hi', e], hn⟩
  obtain ⟨y, e0, h0⟩ := get 0 (by omega)
  obtain ⟨m, e1, h1⟩ := get 1 (by omega)
  obtain ⟨d, e2, h2⟩ := get 2 (by omega)
  refine ⟨(y, m, d), ?_, h0, h1, h2⟩
  congr 1
  apply Array.ext_getElem?
  intro i
  match i with
  | 0 => simpa using e0
  | 1 => simpa using e1
  | 2 => simpa using e2
  | i + 3 => rw [Array.getElem?_eq_none (by omega)]; simp

theorem date_conc {I : Nat → Prop} {W : World} (a : Int × Int × Int) : Conc I W (.agg #[.int .i64 a.1, .int .i64 a.2.1, .int .i64 a.2.2]) (dSV a) := by
  refine .agg _ _ rfl (fun i => ?_)
  match i with
  | 0 => exact .int _ _
  | 1 => exact .int _ _
  | 2 => exact .int _ _
  | i + 3 => exact .any _

set_option maxRecDepth 100000 in
theorem counts_lifted (os : Os) (started : os.Started) (H : Type) (enc : TypeId × Value → H) :
    ReturnsInHanded {} Try.checked os 3 .any (Rows.dateCountsSpec.pre6 enc Try.prog Try.f3 Rows.dateCountsRow.domain false) (Rows.dateCountsSpec.post enc Try.prog Try.f3 false true false false) := by
  refine returnsInHanded_of_change (C := Try.checked) Try.own started (by kernel_rfl) Try.func3
    (ChangeSpec.witness6 (enc := enc) (C := Try.checked) false ⟨#[], #[.agg #[.int .i64 0, .int .i64 0, .int .i64 0]], []⟩ 8 (by kernel_rfl) (by kernel_rfl) (by kernel_rfl) (by kernel_rfl)) ?_
  intro W base args ds gs before hval0 hW hcnd _
  have hval : ∀ (j : Nat) t v, Try.f3.params[j]? = some t → args[j]? = some v → Value.okWide Try.prog W .any base t v := hval0
  have hW' := hW
  obtain ⟨p, q, hA0, hV, rfl, hfz, hnd⟩ := hW
  have hA : DataW.TrodAll enc Try.prog W 0 (fun _ => true) true Try.f3.params.toList args.toList ds p := hA0
  rw [Try.params3] at hA hval
  obtain ⟨v0, d0, rfl, rfl, h0⟩ := trodAll_one hA
  obtain ⟨rfl, rfl⟩ := trodVars_none hV
  obtain ⟨a, rfl, ha⟩ := date_of (hval 0 23 v0 rfl rfl)
  clear hA0 hval0
  simp only [List.append_nil] at hW'
  have hlt : ∀ x ∈ p, x.block < W.heap.size := fun x hx => by simpa using hW'.lt x hx
  refine (counts_ok a (fun b => b < W.heap.size) W #[.agg #[.int .i64 a.1, .int .i64 a.2.1, .int .i64 a.2.2]] (fun b hb => hb) rfl (fun i => ?_)).mono fun e W' ⟨x, I', he, hfr, _, _, hx⟩ => ?_
  · match i with
    | 0 => exact date_conc a
    | i + 1 => exact .any _
  · subst he
    have hx := true_of hx
    subst hx
    have bel := below_of hfr
    exact ⟨_, rfl, _, _, _, [], p, [], hW', trodAll_mk1 (shut_bool Try.underlying4 true), trodAll_mk1 (Below.trod Try.laidOut (by kernel_rfl) (of_decide_eq_true (by kernel_rfl)) h0 bel hlt), rfl, bel.frame _, fun h => by cases h⟩

theorem counts_holds : Rows.DateCountsSaid :=
  OpenClaim.holds_of_wide 3 Try.f3 rfl rfl rfl rfl rfl rfl rfl ⟨rfl, rfl, rfl, rfl, rfl⟩ rfl rfl rfl rfl rfl (by kernel_rfl) Try.func3 (by kernel_rfl)
    (of_decide_eq_true (by kernel_rfl)) (by unfold Func.isWrapper; rw [if_neg (by decide +kernel)]; exact ⟨rfl, rfl⟩)
    (fun os started H enc _ => counts_lifted os started H enc)
end Go.Proofs.Ytmoaahhlilaopaa
