/- The library's sort of entries by their accounts, as what it makes of a row of the caller's own. -/
import Derived.Test.YtcehjhdgdgkkgaaDoorPo
import Derived.Sort.Grow
import Derived.Lib.Walk
import Derived.Shelf.Small.Wraps
import Derived.Shelf.SlSortCmp.NoneTotal
namespace Go.Proofs
open Go.Shelf Go.RowKit Go.Sort Go.Lib
set_option linter.unusedSimpArgs false
set_option linter.unusedVariables false

theorem Tryd.isNaN_calls (a : ByteArray) (w : World) : Calls Tryd.prog 71 #[.string a] w fun e w' => e = .returned (.bool false) ∧ w' = w := by
  go_enter Tryd.func71, Tryd.ntmps71
  go_wp2
  refine bodyPost_ret (results_tmp rfl _ _ _) rfl ?_
  exact ⟨rfl, rfl⟩
theorem Tryd.gtr_str (a b : ByteArray) (w : World) (h : Op.bytesLess a.toList b.toList = false) : (binOp .gtr 9 (.string a) (.string b)).run Tryd.prog w = .ok (.bool (!(a.toList == b.toList))) w := by
  simp [binOp, Op.stringOp, h]
def cmpW (a b : ByteArray) : Int := if Op.bytesLess a.toList b.toList = true then -1 else if (a.toList == b.toList) = true then 0 else 1
theorem Tryd.cmp_calls (a b : ByteArray) (w : World) : Calls Tryd.prog 39 #[.string a, .string b] w fun e w' => e = .returned (.int .i64 (cmpW a b)) ∧ w' = w := by
  have e71 : ∀ args w, (callFunc 71 args).run Tryd.prog w = .ok (.enter 71 args) w := enters_of Tryd.func71 (by kernel_rfl) rfl
  go_enter Tryd.func39, Tryd.ntmps39
  go_wp2_with (go_at_call 71; refine (Tryd.isNaN_calls _ _).mono ?_; rintro e w' ⟨rfl, rfl⟩)
  · refine bodyPost_ret (results_tmp rfl _ _ _) rfl ?_
    rename_i h
    exact ⟨by unfold cmpW; rw [if_pos h]; rfl, rfl⟩
  · rename_i h _ _ _ _ _ _
    rw [Tryd.gtr_str _ _ _ h]
    by_cases h2 : (a.toList == b.toList) = true
    · rw [h2]
      go_wp2
      refine bodyPost_ret (results_tmp rfl _ _ _) rfl ?_
      exact ⟨by unfold cmpW; rw [if_neg (by rw [h]; decide), if_pos h2]; rfl, rfl⟩
    · rw [Bool.not_eq_true] at h2
      rw [h2]
      go_wp2
      refine bodyPost_ret (results_tmp rfl _ _ _) rfl ?_
      exact ⟨by unfold cmpW; rw [if_neg (by rw [h]; decide), if_neg (by rw [h2]; decide)]; rfl, rfl⟩
theorem Tryd.bcmp_calls (a b : ByteArray) (x y : Int) (w : World) : Calls Tryd.prog 38 #[.agg #[.string a, .int .i64 x], .agg #[.string b, .int .i64 y]] w fun e w' => e = .returned (.int .i64 (cmpW a b)) ∧ ∃ os, w' = grow w os := by
  have e39 : ∀ args w, (callFunc 39 args).run Tryd.prog w = .ok (.enter 39 args) w := enters_of Tryd.func39 (by kernel_rfl) rfl
  go_enter Tryd.func38, Tryd.ntmps38
  go_wp2_with (go_at_call 39; refine (Tryd.cmp_calls _ _ _).mono ?_; rintro e w' ⟨rfl, rfl⟩)
  all_goals refine bodyPost_ret (results_tmp rfl _ _ _) rfl ?_
  refine ⟨rfl, #[.cells #[.string a, .int .i64 x] 31, .cells #[.string b, .int .i64 y] 31], ?_⟩
  have e : ∀ A B : Obj, (w.heap.push A).push B = w.heap ++ #[A, B] := fun A B => Array.ext' (by simp)
  show ({ w with heap := (w.heap.push _).push _ } : World) = _
  rw [e]
  rfl
def Tryd.laysSlF06_f37_ren : Go.Shelf.Ren := ⟨fun | 6 => 37 | 15 => 70 | 14 => 69 | 28 => 97 | 29 => 98 | 20 => 89 | 21 => 90 | 22 => 91 | 23 => 92 | 24 => 93 | 25 => 94 | 26 => 95 | 27 => 96 | 46 => 105 | 47 => 106 | 48 => 107 | 49 => 108 | 50 => 109 | 57 => 114 | n => n, fun | 22 => 27 | 24 => 31 | 25 => 99 | 3 => 3 | 39 => 117 | 0 => 0 | 53 => 150 | 55 => 135 | 4 => 4 | 46 => 158 | 45 => 157 | 50 => 162 | 5 => 5 | 9 => 9 | 66 => 172 | 70 => 176 | 76 => 182 | 77 => 183 | n => n, fun | n => n⟩
theorem Tryd.laysSlF06_f37 : Go.Proofs.SlLaysF0.n6 Tryd.prog Tryd.laysSlF06_f37_ren := {
  mixed := by kernel_rfl
  f6 := ⟨Tryd.f37.name, by decide, Tryd.func37.trans (congrArg some (by kernel_rfl))⟩
  f14 := ⟨Tryd.f69.name, by decide, Tryd.func69.trans (congrArg some (by kernel_rfl))⟩
  f15 := Tryd.func70.trans (congrArg some (by kernel_rfl))
  f20 := ⟨Tryd.f89.name, by decide, Tryd.func89.trans (congrArg some (by kernel_rfl))⟩
  f21 := ⟨Tryd.f90.name, by decide, Tryd.func90.trans (congrArg some (by kernel_rfl))⟩
  f22 := ⟨Tryd.f91.name, by decide, Tryd.func91.trans (congrArg some (by kernel_rfl))⟩
  f23 := ⟨Tryd.f92.name, by decide, Tryd.func92.trans (congrArg some (by kernel_rfl))⟩
  f24 := ⟨Tryd.f93.name, by decide, Tryd.func93.trans (congrArg some (by kernel_rfl))⟩
  f25 := ⟨Tryd.f94.name, by decide, Tryd.func94.trans (congrArg some (by kernel_rfl))⟩
  f26 := ⟨Tryd.f95.name, by decide, Tryd.func95.trans (congrArg some (by kernel_rfl))⟩
  f27 := ⟨Tryd.f96.name, by decide, Tryd.func96.trans (congrArg some (by kernel_rfl))⟩
  f28 := Tryd.func97.trans (congrArg some (by kernel_rfl))
  f29 := Tryd.func98.trans (congrArg some (by kernel_rfl))
  f46 := ⟨Tryd.f105.name, by decide, Tryd.func105.trans (congrArg some (by kernel_rfl))⟩
  f47 := Tryd.func106.trans (congrArg some (by kernel_rfl))
  f48 := Tryd.func107.trans (congrArg some (by kernel_rfl))
  f49 := ⟨Tryd.f108.name, by decide, Tryd.func108.trans (congrArg some (by kernel_rfl))⟩
  f50 := ⟨Tryd.f109.name, by decide, Tryd.func109.trans (congrArg some (by kernel_rfl))⟩
  f57 := ⟨Tryd.f114.name, by decide, Tryd.func114.trans (congrArg some (by kernel_rfl))⟩
  t0 := Tryd.underlying0
  a0 := Tryd.isAgg0
  z0 := Tryd.sizeOf0
  v0 := Tryd.zeroValue0
  t3 := Tryd.underlying3
  a3 := Tryd.isAgg3
  z3 := Tryd.sizeOf3
  v3 := Tryd.zeroValue3
  t4 := Tryd.underlying4
  a4 := Tryd.isAgg4
  z4 := Tryd.sizeOf4
  v4 := Tryd.zeroValue4
  t5 := Tryd.underlying5
  a5 := Tryd.isAgg5
  z5 := Tryd.sizeOf5
  v5 := Tryd.zeroValue5
  t9 := Tryd.underlying9
  a9 := Tryd.isAgg9
  z9 := Tryd.sizeOf9
  v9 := Tryd.zeroValue9
  t22 := Tryd.underlying27
  a22 := Tryd.isAgg27
  z22 := Tryd.sizeOf27
  v22 := Tryd.zeroValue27
  t25 := Tryd.underlying99
  a25 := Tryd.isAgg99
  z25 := Tryd.sizeOf99
  v25 := Tryd.zeroValue99
  t39 := Tryd.underlying117
  a39 := Tryd.isAgg117
  z39 := Tryd.sizeOf117
  v39 := Tryd.zeroValue117
  t45 := Tryd.underlying157
  a45 := Tryd.isAgg157
  z45 := Tryd.sizeOf157
  v45 := Tryd.zeroValue157
  t46 := Tryd.underlying158
  a46 := Tryd.isAgg158
  z46 := Tryd.sizeOf158
  v46 := Tryd.zeroValue158
  t50 := Tryd.underlying162
  a50 := Tryd.isAgg162
  z50 := Tryd.sizeOf162
  v50 := Tryd.zeroValue162
  t53 := Tryd.underlying150
  a53 := Tryd.isAgg150
  z53 := Tryd.sizeOf150
  v53 := Tryd.zeroValue150
  t55 := Tryd.underlying135
  a55 := Tryd.isAgg135
  z55 := Tryd.sizeOf135
  v55 := Tryd.zeroValue135
  t66 := Tryd.underlying172
  a66 := Tryd.isAgg172
  z66 := Tryd.sizeOf172
  v66 := Tryd.zeroValue172
  t70 := Tryd.underlying176
  a70 := Tryd.isAgg176
  z70 := Tryd.sizeOf176
  v70 := Tryd.zeroValue176
  t76 := Tryd.underlying182
  a76 := Tryd.isAgg182
  z76 := Tryd.sizeOf182
  v76 := Tryd.zeroValue182
  t77 := Tryd.underlying183
  a77 := Tryd.isAgg183
  z77 := Tryd.sizeOf183
  v77 := Tryd.zeroValue183 }

end Go.Proofs
namespace Go.Rx
open Go.Proofs
set_option linter.unusedSimpArgs false
set_option linter.unusedVariables false
def entsOf (l : List SV) : List Ent := l.map fun e => ((e.cells.getD 0 .any).toStr, (e.cells.getD 1 .any).toInt)
/-- Sorted by the accounts. -/
def srtE (L : List Ent) : Prop := L.Pairwise fun x y => Op.bytesLess y.1 x.1 = false
def tr_sortf : Tr := fun _ us m K => match us with
  | [.osl c ver, .fn g []] => match lkO m c with
    | some (.row v e ks l) => match Nat.beq v ver && cksEq ks enK && Nat.beq g 38 with
      | true => Ob (l.length < 4611686018427387904) ∧ ∀ L : List Ent, L.Perm (entsOf l) → srtE L → K (.tup []) ((c, .row v e ks (enL L)) :: m)
      | false => False
    | _ => False
  | _ => False
open Go.RowKit Go.Sort Go.Lib

theorem entsOf_enL (L : List Ent) : entsOf (enL L) = L := by
  unfold entsOf enL
  rw [List.map_map]
  conv => rhs; rw [← List.map_id L]
  rfl
theorem bl_eq : ∀ x y : List UInt8, Op.bytesLess x y = decide (x < y)
  | [], [] => by simp [Op.bytesLess]
  | _ :: _, [] => by simp [Op.bytesLess]
  | [], _ :: _ => by simp [Op.bytesLess]
  | a :: x, b :: y => by
    rw [Op.bytesLess, bl_eq x y, Bool.eq_iff_iff]
    simp only [Bool.or_eq_true, Bool.and_eq_true, decide_eq_true_eq, beq_iff_eq, List.cons_lt_cons_iff]
theorem bl_no {x y : List UInt8} : Op.bytesLess x y = false ↔ y ≤ x := by rw [bl_eq, decide_eq_false_iff_not, List.not_lt]
def encE (x : Ent) : List Value := [.string ⟨x.1.toArray⟩, .int .i64 x.2]
def cfE (x y : Ent) : Int := cmpW ⟨x.1.toArray⟩ ⟨y.1.toArray⟩
theorem lt_cfE (x y : Ent) : ltOf cfE x y = Op.bytesLess x.1 y.1 := by
  unfold ltOf cfE cmpW
  simp only [ByteArray.toList_eq]
  by_cases h : Op.bytesLess x.1 y.1 = true
  · rw [if_pos h, h]; rfl
  · rw [if_neg h]
    rw [Bool.not_eq_true] at h
    rw [h]
    split <;> rfl
theorem swoE : SWO (ltOf cfE) where
  irrefl x := by rw [lt_cfE, bl_eq]; simp [List.lt_irrefl]
  trans x y z h1 h2 := by
    rw [lt_cfE, bl_eq, decide_eq_true_eq] at *
    exact List.lt_trans h1 h2
  ntrans x y z h1 h2 := by
    rw [lt_cfE, bl_no] at *
    exact List.le_trans h2 h1

theorem pu_at {w : World} {g : Nat} {cur : Array Value} {e : Nat} (d : Array Value) (h : w.heap[g]? = some (.cells cur e (0, 0))) :
    (Sort.putRow id w g 0 d).heap[g]? = some (.cells (Sort.putCells id 0 d cur) e (0, 0)) := by
  simp [Sort.putRow, Sort.mapBlock, Array.getElem?_modify, h, Sort.onCells]
theorem pu_other {w : World} {g k : Nat} (d : Array Value) (h : k ≠ g) : (Sort.putRow id w g 0 d).heap[k]? = w.heap[k]? := by
  simp [Sort.putRow, Sort.mapBlock, Array.getElem?_modify, Ne.symm h]
theorem pu_size (d : Array Value) (cur : Array Value) : (Sort.putCells id 0 d cur).size = cur.size := by simp [Sort.putCells]
theorem pu_get (d : Array Value) (cur : Array Value) (j : Nat) : (Sort.putCells id 0 d cur)[j]? = if j < d.size then cur[j]?.map (fun _ => d[j]!) else cur[j]? := by
  simp only [Sort.putCells, Array.getElem?_mapIdx, Nat.zero_le, true_and, Nat.zero_add, Nat.sub_zero]
  split
  · cases cur[j]? <;> rfl
  · cases cur[j]? <;> rfl
theorem pu_take (d : Array Value) (cur : Array Value) (hc : d.size ≤ cur.size) : (Sort.putCells id 0 d cur).toList.take d.size = d.toList := by
  apply List.ext_getElem?
  intro j
  rw [List.getElem?_take, Array.getElem?_toList, Array.getElem?_toList, pu_get]
  by_cases hj : j < d.size
  · rw [if_pos hj, if_pos hj, Array.getElem?_eq_getElem (by omega), Array.getElem?_eq_getElem hj]
    simp only [Option.map_some]
    rw [getElem!_pos d j hj]
  · rw [if_neg hj, Array.getElem?_eq_none (by omega)]
theorem flatE_get (L : List Ent) (i j : Nat) (hi : i < L.length) (hj : j < 2) : (Go.Sort.flatK encE 2 L.toArray)[i * 2 + j]! = (encE (L.getD i ([], 0)))[j]! := by
  rw [get_flatK _ _ _ _ (by simp; omega), show (i * 2 + j) / 2 = i by omega, show (i * 2 + j) % 2 = j by omega]
  rw [getElem!_pos L.toArray i (by simpa using hi), List.getElem_toArray, List.getD_eq_getElem?_getD, List.getElem?_eq_getElem hi]; rfl
theorem conc_str {I : Nat → Prop} {w : World} {x : Value} {s : List UInt8} (h : Conc I w x (.str s)) : x = .string ⟨s.toArray⟩ := by
  cases h with
  | str b _ e => subst e; rfl
theorem conc_i64 {I : Nat → Prop} {w : World} {x : Value} {n : Int} (h : Conc I w x (.int .i64 n)) : x = .int .i64 n := by cases h; rfl
theorem entsOf_get {l : List SV} {i : Nat} (h : i < l.length) : (entsOf l).getD i ([], 0) = ((elCell l i 0).toStr, (elCell l i 1).toInt) := by
  unfold entsOf
  rw [getD_map _ l i .any ([], 0) h]; rfl
theorem row_ents {E : Env} {w : World} {c e : Nat} {l : List SV} (h : RowR E w c e enK l) :
    (l = [] ∧ ∃ ad cap, E.cv c = .slice ad 0 cap) ∨ ∃ g cap cur, E.loc c = some g ∧ E.cv c = .slice (some ⟨g, 0, none⟩) l.length cap ∧ E.loc c = (E.cv c).ownBlock ∧ w.heap[g]? = some (.cells cur e (0, 0)) ∧ l.length ≤ cap ∧ cap ≤ maxLen ∧ cur.size = cap * 2 ∧
      HoldsK encE 2 w g 0 (entsOf l).toArray := by
  obtain ⟨h1, ⟨h2, xs, ⟨ho1, ho2⟩, h4⟩ | ⟨z1, z2, ad, z3⟩⟩ := h
  rotate_left
  · exact .inl ⟨z1, ad, 0, z3⟩
  rcases ho2 with ⟨e1, e2⟩ | ⟨g, cap, cur, e1, hg, hh, hn, hm, hs, ht⟩
  · exact .inl ⟨List.eq_nil_of_length_eq_zero e2, none, 0, e1⟩
  · have hlen : (entsOf l).length = l.length := by simp [entsOf]
    refine .inr ⟨g, cap, cur, by rw [h2, e1]; rfl, e1, h2, hh, hn, hm, hs, fun t ht' => ?_⟩
    rw [size_flatK, List.size_toArray, hlen] at ht'
    have hk : enK.length = 2 := rfl
    rw [hk] at h4 ht ho1
    obtain ⟨i, j, hj, rfl⟩ : ∃ i j, j < 2 ∧ t = i * 2 + j := ⟨t / 2, t % 2, Nat.mod_lt _ (by decide), by omega⟩
    have hi : i < l.length := by omega
    have h5 := h4 i j hi hj
    have hsh := (h1 (l.getD i .any) (by rw [List.getD_eq_getElem?_getD, List.getElem?_eq_getElem hi]; exact List.getElem_mem hi)).2
    have hcur : ∀ v, xs.getD (i * 2 + j) undef = v → cur[i * 2 + j]? = some v := fun v hv => by
      have hlt : i * 2 + j < l.length * 2 := by omega
      have : (cur.toList.take (l.length * 2))[i * 2 + j]? = some v := by rw [ht, ← hv, List.getD_eq_getElem?_getD, List.getElem?_eq_getElem (by omega)]; rfl
      rw [List.getElem?_take, if_pos hlt, Array.getElem?_toList] at this
      exact this
    have hval : xs.getD (i * 2 + j) undef = (Go.Sort.flatK encE 2 (entsOf l).toArray)[i * 2 + j]! := by
      rw [flatE_get _ _ _ (by rw [hlen]; exact hi) hj, entsOf_get hi]
      match j, hj, h5 with
      | 0, _, h5 =>
        obtain ⟨s, hs'⟩ : ∃ s, elCell l i 0 = .str s := hsh 0 (by decide)
        rw [hs'] at h5 ⊢
        exact conc_str h5
      | 1, _, h5 =>
        obtain ⟨n, hn'⟩ : ∃ n, elCell l i 1 = .int .i64 n := hsh 1 (by decide)
        rw [hn'] at h5 ⊢
        exact conc_i64 h5
    refine ⟨?_, ?_⟩
    · simp only [World.cell?, hh, Nat.zero_add]
      rw [if_neg (by simp), hcur _ hval]
      rfl
    · simp [World.frozen?, hh]
theorem enL_sh (L : List Ent) : ∀ v, v ∈ enL L → shOk enK v := by
  intro v hv
  obtain ⟨x, _, rfl⟩ := List.mem_map.1 hv
  refine ⟨rfl, fun j hj => ?_⟩
  match j, hj with
  | 0, _ => exact ⟨_, rfl⟩
  | 1, _ => exact ⟨_, rfl⟩
theorem row_putE {E : Env} {w' : World} {c e g cap : Nat} {cur : Array Value} {L : List Ent} (hh : w'.heap[g]? = some (.cells cur e (0, 0)))
    (hc : L.length ≤ cap) (hm : cap ≤ maxLen) (hs : cur.size = cap * 2) (ht : cur.toList.take (L.length * 2) = (Go.Sort.flatK encE 2 L.toArray).toList) :
    w'.ownsRow 0 e 2 (.slice (some ⟨g, 0, none⟩) L.length cap) L.length (Go.Sort.flatK encE 2 L.toArray).toList ∧ ∀ i j, i < L.length → j < 2 → Conc E.I w' ((Go.Sort.flatK encE 2 L.toArray).toList.getD (i * 2 + j) undef) (elCell (enL L) i j) := by
  refine ⟨⟨by simp, .inr ⟨g, cap, cur, rfl, Nat.zero_le _, hh, hc, hm, by omega, ht⟩⟩, fun i j hi hj => ?_⟩
  have e1 : (Go.Sort.flatK encE 2 L.toArray).toList.getD (i * 2 + j) undef = (Go.Sort.flatK encE 2 L.toArray)[i * 2 + j]! := by
    have hb : i * 2 + j < (Go.Sort.flatK encE 2 L.toArray).size := by simp; omega
    rw [List.getD_eq_getElem?_getD, Array.getElem?_toList, Array.getElem?_eq_getElem hb, getElem!_pos (Go.Sort.flatK encE 2 L.toArray) (i * 2 + j) hb]; rfl
  rw [e1, flatE_get _ _ _ hi hj]
  unfold elCell
  rw [enL_get hi]
  match j, hj with
  | 0, _ => exact .str _ _ rfl
  | 1, _ => exact .int _ _
def cx0 : Cx := ⟨0, [], [], false, 0, [], false⟩
theorem two_args {xs : Array Value} {us : List SV} {u v : SV} (hs : xs.size = us.length) (ha : us = [u, v]) : ∃ x y, xs = #[x, y] := by
  subst ha
  obtain ⟨l⟩ := xs
  match l, hs with
  | [x, y], _ => exact ⟨x, y, rfl⟩
set_option maxHeartbeats 1600000 in
theorem sortf_in : InK Tryd.prog 37 tr_sortf := by
  refine ⟨fnB_ok (by kernel_rfl), fun off B M I0 G w0 E m w us xs K h hs hx hT => ?_⟩
  unfold tr_sortf at hT
  split at hT
  · rename_i c ver gg
    obtain ⟨x, y, rfl⟩ := two_args hs rfl
    have hx1 : CV E (lkO m) w x (.osl c ver) := hx 0
    have hx2 : CV E (lkO m) w y (.fn gg []) := hx 1
    split at hT
    · rename_i v e ks l hm
      split at hT
      · rename_i hb
        simp only [Bool.and_eq_true] at hb
        have hv := Nat.eq_of_beq_eq_true hb.1.1
        have hk := cksEq_eq _ _ hb.1.2
        have hg := Nat.eq_of_beq_eq_true hb.2
        subst hv hk hg
        obtain ⟨⟨ho⟩, hK⟩ := hT
        obtain ⟨v', g1, g2⟩ := hx1.inv_osl
        rw [hm] at g1
        simp only [verOf, Option.some.injEq] at g1
        have hxe := g2 g1
        obtain ⟨ys, e1, e2, _⟩ := hx2.inv_fn
        have hys : ys = #[] := Array.eq_empty_of_size_eq_zero (by simpa using e2)
        subst hys
        have hc := h.ch c
        rw [show lkO (St.mem ⟨[], m⟩) c = lkO m c from rfl, hm] at hc
        rcases row_ents hc with ⟨el, ad, cap, ev⟩ | ⟨g, cap, cur, hl, ev, hob, hh, hn, hcm, hsz, hH⟩
        · subst el
          rw [hxe, ev]
          refine (AnyF.slices_SortFunc_none Tryd.laysSlF06_f37 ad cap y w).mono (fun e' w' hpost => ?_)
          obtain ⟨rfl, rfl⟩ := hpost
          refine ⟨.tuple #[], .tup [], (c, Chunk.row v e enK (enL [])) :: m, E, rfl, h.congr (fun _ => rfl) (fun k => ?_), .conc _ _ (.tup #[] [] rfl (fun i => by simpa using Conc.any _)), hK [] (.refl _) .nil⟩
          show lkO ((c, Chunk.row v e enK (enL [])) :: m) k = lkO m k
          rw [lkO_cons]
          by_cases ek : c = k
          · subst ek; rw [if_pos rfl, hm]; rfl
          · rw [if_neg ek]
        · have hgl := (h.loc c g hl).1
          have hlen : (entsOf l).toArray.size = l.length := by simp [entsOf]
          have hcall := AnyQ.slices_SortFunc Tryd.laysSlF06_f37 2 (fun w => Tryd.isAgg31 w) (fun w => Tryd.sizeOf31 w) encE (fun x => rfl) (fun x u hu => by
            rcases List.mem_cons.1 hu with rfl | hu
            · rfl
            · rcases List.mem_cons.1 hu with rfl | hu
              · rfl
              · cases hu) cfE swoE 38 #[] g 0 cap (entsOf l).toArray w (enters_of Tryd.func38 (by kernel_rfl) rfl) (fun n os dk _ x y => (Tryd.bcmp_calls _ _ _ _ _).mono fun e' w' ⟨q1, os', q2⟩ => ⟨q1, 0, os', q2⟩) hH hgl (by rw [hlen]; exact ho)
          rw [hlen] at hcall
          rw [hxe, ev, e1]
          refine hcall.mono (fun e' w' hpost => ?_)
          obtain ⟨rfl, d', n, os, hp, hsrt, rfl⟩ := hpost
          have hds : d'.size = l.length := by rw [hp.1, hlen]
          have hperm : d'.toList.Perm (entsOf l) := by
            have := hp.2.2
            rw [Array.extract_eq_self_of_le (by omega), Array.extract_eq_self_of_le (by omega)] at this
            exact this
          have hsorted : srtE d'.toList := by
            refine List.pairwise_iff_getElem.2 fun i j hi hj hij => ?_
            have := hsrt i j (Nat.zero_le _) hij (by simpa [hds] using hj)
            rw [lt_cfE, getElem!_pos d' i (by simpa using hi), getElem!_pos d' j (by simpa using hj)] at this
            simpa using this
          have hK' := hK d'.toList hperm hsorted
          have hll : d'.toList.length = l.length := by simpa using hds
          have hfs : (Go.Sort.flatK encE 2 d').size = l.length * 2 := by simp [hds]
          have hda : d'.toList.toArray = d' := rfl
          have hcs : l.length * 2 ≤ cur.size := by omega
          have hrow := row_putE (E := E) (w' := Sort.putRow id (Sort.ahead w n) g 0 (Go.Sort.flatK encE 2 d')) (c := c) (e := e) (g := g) (cap := cap) (L := d'.toList) (pu_at _ (show (Sort.ahead w n).heap[g]? = _ from hh)) (by omega) hcm (by rw [pu_size]; exact hsz)
            (by rw [hll, ← hfs, pu_take _ _ (by omega)])
          rw [hll] at hrow
          have r1 := Rel.storeRow (cx := cx0) (s := ⟨[], m⟩) (a := ⟨#[], []⟩) (l' := enL d'.toList) (d := none) (x := .tuple #[]) (u := .tup []) (w' := Sort.putRow id (Sort.ahead w n) g 0 (Go.Sort.flatK encE 2 d')) h hm hl
            (fun k hk => by rw [pu_other _ hk]; rfl) (by simp [Sort.ahead]) ⟨rfl, rfl, rfl⟩
            ⟨enL_sh _, .inl ⟨hob, _, by rw [ev, enL_len, hll]; exact hrow.1, fun i j hi hj => hrow.2 i j (by rw [enL_len, hll] at hi; exact hi) hj⟩⟩ (fun k hk => by cases hk) (.conc _ _ (.tup #[] [] rfl (fun i => by simpa using Conc.any _)))
          have r2 := Rel.called (cx := cx0) (I' := E.I) (w' := Sort.grow (Sort.putRow id (Sort.ahead w n) g 0 (Go.Sort.flatK encE 2 d')) os) (x := .tuple #[]) (v := .tup []) (d := none) r1
            ⟨rfl, rfl, rfl, by simp, fun k hk _ => Sort.heap_grow_old _ _ hk⟩ (fun _ h => h) (fun b hb => ⟨Nat.lt_of_lt_of_le (r1.inew b hb).1 (by rw [Sort.size_grow]; exact Nat.le_add_right _ _), .inl hb⟩) (.tup #[] [] rfl (fun i => by simpa using Conc.any _)) (fun k hk => by cases hk)
          exact ⟨_, _, _, _, rfl, r2, .conc _ _ (.tup #[] [] rfl (fun i => by simpa using Conc.any _)), hK'⟩
      · exact hT.elim
    · exact hT.elim
  · exact hT.elim
end Go.Rx

