/- The library's Grow of nil, as a slice of the caller's own. -/
import Derived.Test.YthhoimfigekagaaMon
import Derived.Shelf.Spec.SlicesGrow
namespace Go.Rx
open Go.Proofs
set_option linter.unusedSimpArgs false
set_option linter.unusedVariables false


abbrev baK : List CK := [.int .i64, .int .i64, .int .i64]
def tr_growB : Tr := fun off us m K => match us with
  | [.nilsl, .int k n] => match lkO m (off + 1), decide (k = .i64) with
    | none, true => Ob (0 ≤ n ∧ n ≤ 1000000) ∧ K (.osl (off + 1) 0) ((off + 1, .row 0 39 baK []) :: m)
    | _, _ => False
  | _ => False

open Go.RowKit
def cx0 : Cx := ⟨0, [], [], false, 0, [], false⟩
theorem conc_int {I : Nat → Prop} {w : World} {x : Value} {n : Int} (h : Conc I w x (.int .i64 n)) : x = .int .i64 n := by cases h; rfl
/-- A row of whole numbers: its cells. -/
theorem two_args {xs : Array Value} {us : List SV} {u v : SV} (hs : xs.size = us.length) (ha : us = [u, v]) : ∃ x y, xs = #[x, y] := by
  subst ha
  obtain ⟨l⟩ := xs
  match l, hs with
  | [x, y], _ => exact ⟨x, y, rfl⟩
def growB_ren : Go.Shelf.Ren := ⟨fun | 4 => 23 | n => n, fun | 0 => 0 | 3 => 3 | 4 => 4 | 9 => 9 | 20 => 20 | 22 => 27 | 25 => 39 | n => n, fun | n => n⟩
theorem growB_lays : Go.Proofs.Lays8.n4 Try.prog growB_ren := {
  mixed := by kernel_rfl
  f4 := ⟨Try.f23.name, by decide, Try.func23.trans (congrArg some (by kernel_rfl))⟩
  t0 := Try.underlying0
  a0 := Try.isAgg0
  z0 := Try.sizeOf0
  v0 := Try.zeroValue0
  t3 := Try.underlying3
  a3 := Try.isAgg3
  z3 := Try.sizeOf3
  v3 := Try.zeroValue3
  t4 := Try.underlying4
  a4 := Try.isAgg4
  z4 := Try.sizeOf4
  v4 := Try.zeroValue4
  t9 := Try.underlying9
  a9 := Try.isAgg9
  z9 := Try.sizeOf9
  v9 := Try.zeroValue9
  t20 := Try.underlying20
  a20 := Try.isAgg20
  z20 := Try.sizeOf20
  v20 := Try.zeroValue20
  t22 := Try.underlying27
  a22 := Try.isAgg27
  z22 := Try.sizeOf27
  v22 := Try.zeroValue27 }
set_option maxRecDepth 100000 in
set_option maxHeartbeats 1600000 in
theorem growB_in : InK Try.prog 23 tr_growB := by
  refine ⟨fnB_ok (by kernel_rfl), fun off B M I0 G w0 E m w us xs K h hs hx hT => ?_⟩
  unfold tr_growB at hT
  split at hT
  · rename_i k n
    obtain ⟨x, y, rfl⟩ := two_args hs rfl
    have hx1 : CV E (lkO m) w x .nilsl := hx 0
    have hx2 : CV E (lkO m) w y (.int k n) := hx 1
    split at hT
    · rename_i hfree hk
      have hk : k = .i64 := of_decide_eq_true hk
      subst hk
      obtain ⟨⟨hn0, hn1⟩, hK⟩ := hT
      obtain ⟨u, rfl⟩ : ∃ u : Nat, n = u := ⟨n.toNat, by omega⟩
      have ex := hx1.inv_nilsl
      have ey := conc_int (closed_conc _ _ rfl hx2)
      subst ex ey
      have hfree' : lkO (St.mem ⟨[], m⟩) (off + 1) = none := hfree
      by_cases hu : u = 0
      · subst hu
        have hcall := Any8.slices_Grow_room growB_lays none 0 0 0 w (Nat.le_refl _) (by omega) (by omega) (by omega)
        refine hcall.mono (fun e' w' hpost => ?_)
        obtain ⟨rfl, rfl⟩ := hpost
        have r1 := Rel.rowZ (cx := cx0) (s := ⟨[], m⟩) (a := ⟨#[], []⟩) (c := off + 1) (ver := 0) (e := 39) (ks := baK) (l := []) (ad := none) (d := none) h (.inl hfree') rfl (fun k hk => by cases hk)
        refine ⟨_, _, _, _, rfl, r1, ?_, hK⟩
        exact .osl _ (off + 1) 0 0 (by show verOf (lkO ((off + 1, _) :: m) (off + 1)) = _; rw [lkO_cons, if_pos rfl]; rfl) (Nat.le_refl _) (fun _ => by simp [Env.withRow])
      · obtain ⟨inf, z, i1, i2, i3, i4, i5, i6, i7⟩ := (tyT_ok 39 _ rfl).info
        have i2 : inf.size = 3 := i2
        have i3 : inf.bytes = 24 := i3
        have i5 : z.cells.size = 3 := i5
        have hcall := Any8.slices_Grow_grow growB_lays inf z i1 i4 (by omega) none 0 0 u [] w (Nat.le_refl _) (by omega) (by rw [i3]; omega) (by omega) (by simp) (fun _ => rfl) (fun a ha => by cases ha)
        refine hcall.mono (fun e' w' hpost => ?_)
        obtain ⟨rfl, hw⟩ := hpost
        simp only [Nat.zero_add] at hw ⊢
        generalize hcur : ((#[] : Array Value) ++ Builtin.zeroCells z.cells (u - 0) ++ Builtin.zeroCells z.cells (grownCap w u 0 (growB_ren.t 25) - u)) = cur at hw
        have hcs : cur.size = grownCap w u 0 (growB_ren.t 25) * 3 := by
          have := grownCap_ge w u 0 (growB_ren.t 25)
          rw [← hcur]
          simp only [Array.size_append, size_zeroCells, i5, List.size_toArray, List.length_nil, Nat.zero_add, Nat.sub_zero]
          rw [← Nat.add_mul]
          congr 1
          omega
        have hcm := grownCap_le_maxLen w u 0 (growB_ren.t 25) (by simp only [maxLen]; omega)
        have e25 : growB_ren.t 25 = 39 := rfl
        rw [e25] at hw hcs hcm ⊢
        subst hw
        have r1 := Rel.row (cx := cx0) (s := ⟨[], m⟩) (a := ⟨#[], []⟩) (w' := w.drew.alloc (.cells cur 39)) (row := none) (c := off + 1) (ver := 0) (e := 39) (ks := baK) (l := []) (x := .slice (some ⟨w.heap.size, 0, none⟩) 0 (grownCap w u 0 39)) (d := none) (fz := []) (xs := []) h rfl (fun _ => rfl)
          (.inl ⟨hfree', rfl⟩) ⟨rfl, rfl, rfl, by simp, fun k hk _ => heap_push w.drew _ k hk⟩ (fun k hk => by cases hk) (fun b hb => by cases hb; exact ⟨by simp, .inr (Nat.le_refl _)⟩) (fun v hv => by cases hv)
          ⟨rfl, .inr ⟨w.heap.size, _, cur, rfl, Nat.zero_le _, heap_new w.drew _, Nat.zero_le _, hcm, hcs, by simp⟩⟩ (fun i j hi => by simp at hi) (fun k hk => by cases hk)
        refine ⟨_, _, _, _, rfl, r1, ?_, hK⟩
        exact .osl _ (off + 1) 0 0 (by show verOf (lkO ((off + 1, _) :: m) (off + 1)) = _; rw [lkO_cons, if_pos rfl]; rfl) (Nat.le_refl _) (fun _ => by simp [Env.withRow])
    · exact hT.elim
  · exact hT.elim
end Go.Rx
