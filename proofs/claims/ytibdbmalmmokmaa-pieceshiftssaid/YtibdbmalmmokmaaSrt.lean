/- The library's Sort and Compact of whole numbers, and Grow, as what they make of a row of the caller's own. -/
import Derived.Test.YtibdbmalmmokmaaSb
import Derived.Test.YtibdbmalmmokmaaShelf
import Derived.Shelf.Spec.SlicesGrow
namespace Go.Rx
open Go.Proofs
set_option linter.unusedSimpArgs false
set_option linter.unusedVariables false


def insZ (a : Int) : List Int → List Int
  | [] => [a]
  | b :: r => if a ≤ b then a :: b :: r else b :: insZ a r
/-- Sorted. -/
def sortZ : List Int → List Int
  | [] => []
  | a :: r => insZ a (sortZ r)
/-- Without those that are like the one ahead. -/
def cmpZ : List Int → List Int
  | [] => []
  | [a] => [a]
  | a :: b :: r => if a = b then cmpZ (b :: r) else a :: cmpZ (b :: r)
def iSV (l : List Int) : List SV := l.map (SV.int .i64)
theorem insZ_perm (a : Int) : ∀ l, (insZ a l).Perm (a :: l)
  | [] => .refl _
  | b :: r => by
    unfold insZ
    split
    · exact .refl _
    · exact ((insZ_perm a r).cons b).trans (.swap a b r)
theorem sortZ_perm : ∀ l, (sortZ l).Perm l
  | [] => .refl _
  | a :: r => (insZ_perm a (sortZ r)).trans ((sortZ_perm r).cons a)
theorem insZ_sorted (a : Int) : ∀ l, l.Pairwise (· ≤ ·) → (insZ a l).Pairwise (· ≤ ·)
  | [], _ => by simp [insZ]
  | b :: r, h => by
    unfold insZ
    rw [List.pairwise_cons] at h
    split
    · rename_i hab
      refine List.pairwise_cons.2 ⟨fun x hx => ?_, List.pairwise_cons.2 h⟩
      rcases List.mem_cons.1 hx with rfl | hx
      · exact hab
      · exact Int.le_trans hab (h.1 x hx)
    · rename_i hab
      refine List.pairwise_cons.2 ⟨fun x hx => ?_, insZ_sorted a r h.2⟩
      rcases List.mem_cons.1 ((insZ_perm a r).subset hx) with rfl | hx
      · omega
      · exact h.1 x hx
theorem sortZ_sorted : ∀ l, (sortZ l).Pairwise (· ≤ ·)
  | [] => .nil
  | a :: r => insZ_sorted a _ (sortZ_sorted r)
theorem sortZ_len (l : List Int) : (sortZ l).length = l.length := (sortZ_perm l).length_eq
theorem sortZ_is (l : List Int) : l.mergeSort (fun x y => decide (x ≤ y)) = sortZ l := by
  refine List.Perm.eq_of_pairwise (le := fun a b => a ≤ b) (fun a b _ _ h1 h2 => Int.le_antisymm h1 h2) ?_ (sortZ_sorted l) ((List.mergeSort_perm l _).trans (sortZ_perm l).symm)
  have := List.pairwise_mergeSort (le := fun (x y : Int) => decide (x ≤ y)) (fun a b c h1 h2 => by simp only [decide_eq_true_eq] at *; omega) (fun a b => by simp only [Bool.or_eq_true, decide_eq_true_eq]; omega) l
  exact this.imp (fun h => by simpa using h)
theorem cmpZ_len : ∀ l, (cmpZ l).length ≤ l.length
  | [] => Nat.le_refl _
  | [a] => Nat.le_refl _
  | a :: b :: r => by
    have := cmpZ_len (b :: r)
    unfold cmpZ
    split
    · simp only [List.length_cons] at *; omega
    · simp only [List.length_cons] at *; omega
theorem cmpFrom (d : Array Int) : ∀ (l : List Int) (i : Nat), (∀ j, l[j]? = if i + j < d.size then some d[i + j]! else none) → ∀ a, l.head? = some a →
    ((List.range' i l.length).filter (Lib.keeps d)).map (d[·]!) = if Lib.keeps d i then cmpZ l else (cmpZ l).drop 1
  | [], i, _, a, ha => by cases ha
  | [x], i, h, a, _ => by
    have h0 := h 0
    simp only [List.getElem?_cons_zero, Nat.add_zero] at h0
    split at h0
    · cases h0
      by_cases hk : Lib.keeps d i <;> simp [List.range', hk, cmpZ]
    · cases h0
  | x :: y :: r, i, h, a, _ => by
    have h0 := h 0
    have h1 := h 1
    simp only [List.getElem?_cons_zero, Nat.add_zero] at h0
    simp only [List.getElem?_cons_succ, List.getElem?_cons_zero] at h1
    have ih := cmpFrom d (y :: r) (i + 1) (fun j => by
      have := h (j + 1)
      rw [List.getElem?_cons_succ] at this
      rw [this, Nat.add_assoc, Nat.add_comm 1 j]) y rfl
    split at h0
    · split at h1
      · cases h0
        cases h1
        have hk1 : Lib.keeps d (i + 1) = decide (d[i]! ≠ d[i + 1]!) := by
          unfold Lib.keeps
          rw [decide_eq_decide]
          simp only [Nat.add_sub_cancel]
          constructor
          · intro h; rcases h with h | h
            · omega
            · exact fun e => h e.symm
          · exact fun h => .inr (fun e => h e.symm)
        rw [hk1] at ih
        have e : (List.range' i (d[i]! :: d[i + 1]! :: r).length) = i :: List.range' (i + 1) (d[i + 1]! :: r).length := by simp [List.range']
        rw [e, List.filter_cons]
        by_cases hxy : d[i]! = d[i + 1]!
        · rw [if_neg (by simp [hxy])] at ih
          have ec : cmpZ (d[i]! :: d[i + 1]! :: r) = cmpZ (d[i + 1]! :: r) := by rw [cmpZ, if_pos hxy]
          rw [ec]
          have hd : ∃ t, cmpZ (d[i + 1]! :: r) = d[i + 1]! :: t := cmpHead d[i + 1]! r
          obtain ⟨t, ht⟩ := hd
          rw [ht] at ih ⊢
          by_cases hk : Lib.keeps d i <;> simp only [hk, if_true, if_false, List.map_cons, ih, Bool.false_eq_true]
          · rw [List.drop_succ_cons, List.drop_zero, hxy]
        · rw [if_pos (by simp [hxy])] at ih
          have ec : cmpZ (d[i]! :: d[i + 1]! :: r) = d[i]! :: cmpZ (d[i + 1]! :: r) := by rw [cmpZ, if_neg hxy]
          rw [ec]
          by_cases hk : Lib.keeps d i <;> simp only [hk, if_true, if_false, List.map_cons, ih, Bool.false_eq_true]
          · rw [List.drop_succ_cons, List.drop_zero]
      · cases h1
    · cases h0
where
  cmpHead (a : Int) : ∀ r, ∃ t, cmpZ (a :: r) = a :: t
    | [] => ⟨[], rfl⟩
    | b :: r => by
      unfold cmpZ
      split
      · rename_i h; subst h; exact cmpHead a r
      · exact ⟨_, rfl⟩
theorem cmpZ_is (l : List Int) : Lib.compact l = cmpZ l := by
  cases l with
  | nil => simp [Lib.compact, Lib.compactUpTo, cmpZ]
  | cons a r =>
    have := cmpFrom (a :: r).toArray (a :: r) 0 (fun j => by
      simp only [Nat.zero_add, List.size_toArray]
      split
      · rename_i h
        rw [List.getElem?_eq_getElem h]
        congr 1
        rw [getElem!_pos _ j (by simpa using h)]
        simp
      · rename_i h
        rw [List.getElem?_eq_none (by omega)]) a rfl
    unfold Lib.compact Lib.compactUpTo
    rw [List.range_eq_range', this, if_pos (by simp [Lib.keeps])]

def tr_sort : Tr := fun _ us m K => match us with
  | [.osl c ver] => match lkO m c with
    | some (.row v e ks l) => match Nat.beq v ver && cksEq ks [.int .i64] with
      | true => Ob (l.length < 4611686018427387904) ∧ K (.tup []) ((c, .row v e ks (iSV (sortZ (ints l)))) :: m)
      | false => False
    | _ => False
  | [.nilsl] => K (.tup []) m
  | _ => False
def tr_compact : Tr := fun _ us m K => match us with
  | [.osl c ver] => match lkO m c with
    | some (.row v e ks l) => match Nat.beq v ver && cksEq ks [.int .i64] with
      | true => K (.osl c (v + 1)) ((c, .row (v + 1) e ks (iSV (cmpZ (ints l)))) :: m)
      | false => False
    | _ => False
  | [.nilsl] => K .nilsl m
  | _ => False
def lineK : List CK := [.int .i64, .int .i64, .int .i64]
def tr_grow : Tr := fun off us m K => match us with
  | [.nilsl, .int k n] => match lkO m (off + 1), decide (k = .i64) with
    | none, true => Ob (0 < n ∧ n ≤ 1000000) ∧ K (.osl (off + 1) 0) ((off + 1, .row 0 37 lineK []) :: m)
    | _, _ => False
  | _ => False

open Go.RowKit

theorem pt_at {w : World} {g : Nat} {cur : Array Value} {e : Nat} (d : Array Int) (h : w.heap[g]? = some (.cells cur e (0, 0))) :
    (Sort.putRow (Value.int .i64) w g 0 d).heap[g]? = some (.cells (Sort.putCells (Value.int .i64) 0 d cur) e (0, 0)) := by
  simp [Sort.putRow, Sort.mapBlock, Array.getElem?_modify, h, Sort.onCells]
theorem pt_other {w : World} {g k : Nat} (d : Array Int) (h : k ≠ g) : (Sort.putRow (Value.int .i64) w g 0 d).heap[k]? = w.heap[k]? := by
  simp [Sort.putRow, Sort.mapBlock, Array.getElem?_modify, Ne.symm h]
theorem pt_size (d : Array Int) (cur : Array Value) : (Sort.putCells (Value.int .i64) 0 d cur).size = cur.size := by simp [Sort.putCells]
theorem pt_get (d : Array Int) (cur : Array Value) (j : Nat) : (Sort.putCells (Value.int .i64) 0 d cur)[j]? = if j < d.size then cur[j]?.map (fun _ => Value.int .i64 d[j]!) else cur[j]? := by
  simp only [Sort.putCells, Array.getElem?_mapIdx, Nat.zero_le, true_and, Nat.zero_add, Nat.sub_zero]
  split
  · cases cur[j]? <;> rfl
  · cases cur[j]? <;> rfl
theorem pt_take (d : List Int) (cur : Array Value) (n : Nat) (hn : n ≤ d.length) (hc : d.length ≤ cur.size) : (Sort.putCells (Value.int .i64) 0 d.toArray cur).toList.take n = (d.take n).map (Value.int .i64) := by
  apply List.ext_getElem?
  intro j
  rw [List.getElem?_take, List.getElem?_map, List.getElem?_take, Array.getElem?_toList, pt_get]
  by_cases hj : j < n
  · rw [if_pos hj, if_pos hj, if_pos (by simp; omega), Array.getElem?_eq_getElem (by omega), List.getElem?_eq_getElem (by omega)]
    simp only [Option.map_some]
    congr 2
    rw [getElem!_pos _ j (by simp; omega)]
    simp
  · rw [if_neg hj, if_neg hj]; rfl

theorem conc_int {I : Nat → Prop} {w : World} {x : Value} {n : Int} (h : Conc I w x (.int .i64 n)) : x = .int .i64 n := by cases h; rfl
/-- A row of whole numbers: its cells. -/
theorem row_ints {E : Env} {w : World} {c e : Nat} {l : List SV} (h : RowR E w c e [.int .i64] l) :
    E.loc c = (E.cv c).ownBlock ∧ ((E.cv c = .slice none 0 0 ∧ l = []) ∨ ∃ g cap cur, E.cv c = .slice (some ⟨g, 0, none⟩) l.length cap ∧ w.heap[g]? = some (.cells cur e (0, 0)) ∧ l.length ≤ cap ∧ cap ≤ maxLen ∧ cur.size = cap ∧
      Sort.Holds (Value.int .i64) w g 0 (ints l).toArray) := by
  obtain ⟨h1, h2, xs, ⟨ho1, ho2⟩, h4⟩ := h
  refine ⟨h2, ?_⟩
  rcases ho2 with ⟨e1, e2⟩ | ⟨g, cap, cur, e1, hg, hh, hn, hm, hs, ht⟩
  · exact .inl ⟨e1, List.eq_nil_of_length_eq_zero e2⟩
  · simp only [List.length_cons, List.length_nil, Nat.zero_add, Nat.mul_one] at ho1 hs ht h4
    refine .inr ⟨g, cap, cur, e1, hh, hn, hm, hs, fun j hj => ?_⟩
    simp only [List.size_toArray, ints_length] at hj
    have h5 := h4 j 0 hj (by omega)
    have hsh := (h1 (l.getD j .any) (by rw [List.getD_eq_getElem?_getD, List.getElem?_eq_getElem hj]; exact List.getElem_mem hj)).2 0 (by simp)
    obtain ⟨n, hn'⟩ : ∃ n, elCell l j 0 = .int .i64 n := hsh
    have hz : (ints l).getD j 0 = n := by rw [← ints_get l j hj, hn']; rfl
    rw [Nat.add_zero, hn'] at h5
    have hx : xs.getD j undef = .int .i64 n := conc_int h5
    have hcur : cur[j]? = some (.int .i64 n) := by
      have hjc : j < cur.size := by omega
      have : (cur.toList.take l.length)[j]? = some (xs.getD j undef) := by rw [ht, List.getD_eq_getElem?_getD, List.getElem?_eq_getElem (by omega)]; rfl
      rw [List.getElem?_take, if_pos hj, Array.getElem?_toList] at this
      rw [this, hx]
    refine ⟨?_, ?_⟩
    · simp only [World.cell?, hh, Nat.zero_add]
      rw [if_neg (by simp), hcur]
      congr 2
      rw [getElem!_pos _ j (by simpa [ints_length] using hj)]
      simp only [List.getElem_toArray]
      rw [← hz, List.getD_eq_getElem?_getD, List.getElem?_eq_getElem (by rw [ints_length]; exact hj)]
      rfl
    · simp [World.frozen?, hh]

theorem iSV_sh (d : List Int) : ∀ v, v ∈ iSV d → shOk [.int .i64] v := by
  intro v hv
  obtain ⟨n, _, rfl⟩ := List.mem_map.1 hv
  refine ⟨rfl, fun j hj => ?_⟩
  have : j = 0 := by simp at hj; omega
  subst this
  exact ⟨n, rfl⟩
/-- .. with other numbers. -/
theorem row_put {E : Env} {w' : World} {c e g cap n : Nat} {cur : Array Value} {d : List Int} (h2 : E.loc c = (E.cv c).ownBlock) (hv : E.cv c = .slice (some ⟨g, 0, none⟩) n cap) (hh : w'.heap[g]? = some (.cells cur e (0, 0)))
    (hc : d.length ≤ cap) (hm : cap ≤ maxLen) (hs : cur.size = cap) (ht : cur.toList.take d.length = d.map (Value.int .i64)) :
    w'.ownsRow 0 e 1 (.slice (some ⟨g, 0, none⟩) d.length cap) d.length (d.map (Value.int .i64)) ∧ ∀ i j, i < (iSV d).length → j < 1 → Conc E.I w' ((d.map (Value.int .i64)).getD (i * 1 + j) undef) (elCell (iSV d) i j) := by
  refine ⟨⟨by simp, .inr ⟨g, cap, cur, rfl, Nat.zero_le _, hh, hc, hm, by omega, by simpa using ht⟩⟩, fun i j hi hj => ?_⟩
  have hj : j = 0 := by omega
  subst hj
  have hi : i < d.length := by simpa [iSV] using hi
  have e1 : (d.map (Value.int .i64)).getD (i * 1 + 0) undef = .int .i64 (d[i]) := by simp [List.getD_eq_getElem?_getD, hi]
  have e2 : elCell (iSV d) i 0 = .int .i64 (d[i]) := by
    unfold elCell iSV
    simp [List.getD_eq_getElem?_getD, hi, SV.cells]
  rw [e1, e2]
  exact .int _ _

def cx0 : Cx := ⟨0, [], [], false, 0, [], false⟩
theorem one_arg {xs : Array Value} {us : List SV} {u : SV} (hs : xs.size = us.length) (ha : us = [u]) : ∃ x, xs = #[x] ∧ xs.getD 0 undef = x := by
  subst ha
  obtain ⟨l⟩ := xs
  match l, hs with
  | [x], _ => exact ⟨x, rfl, rfl⟩

theorem sort_in : InK Try.prog 37 tr_sort := by
  refine ⟨fnB_ok (by kernel_rfl), fun off B M I0 G w0 E m w us xs K h hs hx hT => ?_⟩
  unfold tr_sort at hT
  split at hT
  · rename_i c ver
    obtain ⟨x, rfl, hx0⟩ := one_arg hs rfl
    have hx := hx 0
    rw [hx0] at hx
    simp only [List.getD_cons_zero] at hx
    split at hT
    · rename_i v e ks l hm
      split at hT
      · rename_i hb
        rw [Bool.and_eq_true] at hb
        have hv := Nat.eq_of_beq_eq_true hb.1
        have hk := cksEq_eq _ _ hb.2
        subst hv hk
        obtain ⟨⟨ho⟩, hK⟩ := hT
        obtain ⟨v', g1, g2⟩ := hx.inv_osl
        rw [hm] at g1
        simp only [verOf, Option.some.injEq] at g1
        have hxe := g2 g1
        have hc := h.ch c
        rw [show lkO (St.mem ⟨[], m⟩) c = lkO m c from rfl, hm] at hc
        obtain ⟨hl, hcase⟩ := row_ints hc
        rcases hcase with ⟨e1, e2⟩ | ⟨g, cap, cur, e1, hh, hn, hcm, hsz, hH⟩
        · subst e2
          refine (Try.slices_Sort_int_none none 0 w).mono (fun e' w' hpost => ?_) |> (by rw [hxe, e1]; exact ·)
          obtain ⟨rfl, rfl⟩ := hpost
          refine ⟨.tuple #[], .tup [], (c, Chunk.row v e [.int .i64] (iSV (sortZ (ints [])))) :: m, E, rfl, h.congr (fun _ => rfl) (fun k => ?_), .conc _ _ (.tup #[] [] rfl (fun i => by simpa using Conc.any _)), hK⟩
          show lkO ((c, Chunk.row v e [.int .i64] (iSV (sortZ (ints [])))) :: m) k = lkO m k
          rw [lkO_cons]
          by_cases ek : c = k
          · subst ek; rw [if_pos rfl, hm]; rfl
          · rw [if_neg ek]
        · have hg : E.loc c = some g := by rw [hl, e1]; rfl
          have hgl := (h.loc c g hg).1
          have hlen : l.length = (ints l).length := (ints_length l).symm
          have hcall := Try.slices_Sort_int g 0 cap (ints l) w hH hgl (by rw [← hlen]; exact ho)
          rw [hxe, e1, hlen]
          refine hcall.mono (fun e' w' hpost => ?_)
          obtain ⟨rfl, n, os, rfl⟩ := hpost
          rw [sortZ_is]
          have hsl : (sortZ (ints l)).length = l.length := by rw [sortZ_len, ints_length]
          have r1 := Rel.storeRow (cx := cx0) (s := ⟨[], m⟩) (a := ⟨#[], []⟩) (l' := iSV (sortZ (ints l))) (d := none) (x := .tuple #[]) (u := .tup []) (w' := Sort.putRow (Value.int .i64) (Sort.ahead w n) g 0 (sortZ (ints l)).toArray) h hm hg
            (fun k hk => by rw [pt_other _ hk]; rfl) (by simp [Sort.ahead]) ⟨rfl, rfl, rfl⟩
            ⟨iSV_sh _, hl, _, by
              have := row_put (E := E) (w' := Sort.putRow (Value.int .i64) (Sort.ahead w n) g 0 (sortZ (ints l)).toArray) (c := c) (e := e) (d := sortZ (ints l)) hl e1 (pt_at _ hh) (by omega) hcm (by rw [pt_size]; exact hsz) (by rw [pt_take _ _ _ (Nat.le_refl _) (by omega), List.take_length])
              refine ⟨?_, this.2⟩
              rw [e1]
              have e3 : (iSV (sortZ (ints l))).length = (sortZ (ints l)).length := by simp [iSV]
              rw [e3, ← hsl]
              exact this.1⟩ (fun k hk => by cases hk) (.conc _ _ (.tup #[] [] rfl (fun i => by simpa using Conc.any _)))
          have r2 := Rel.called (cx := cx0) (I' := E.I) (w' := Sort.grow (Sort.putRow (Value.int .i64) (Sort.ahead w n) g 0 (sortZ (ints l)).toArray) os) (x := .tuple #[]) (v := .tup []) (d := none) r1
            ⟨rfl, rfl, rfl, by simp, fun k hk _ => Sort.heap_grow_old _ _ hk⟩ (fun _ h => h) (fun b hb => ⟨Nat.lt_of_lt_of_le (r1.inew b hb).1 (by rw [Sort.size_grow]; exact Nat.le_add_right _ _), .inl hb⟩) (.tup #[] [] rfl (fun i => by simpa using Conc.any _)) (fun k hk => by cases hk)
          exact ⟨_, _, _, _, rfl, r2, .conc _ _ (.tup #[] [] rfl (fun i => by simpa using Conc.any _)), hK⟩
      · exact hT.elim
    · exact hT.elim
  · obtain ⟨x, rfl, hx0⟩ := one_arg hs rfl
    have hx := hx 0
    rw [hx0] at hx
    have hn := (show CV E (lkO m) w x .nilsl from hx).inv_nilsl
    rw [hn]
    refine (Try.slices_Sort_int_none none 0 w).mono (fun e' w' hpost => ?_)
    obtain ⟨rfl, rfl⟩ := hpost
    exact ⟨_, _, _, E, rfl, h, .conc _ _ (.tup #[] [] rfl (fun i => by simpa using Conc.any _)), hT⟩
  · exact hT.elim

set_option maxHeartbeats 1600000 in
theorem compact_in : InK Try.prog 38 tr_compact := by
  refine ⟨fnB_ok (by kernel_rfl), fun off B M I0 G w0 E m w us xs K h hs hx hT => ?_⟩
  unfold tr_compact at hT
  split at hT
  · rename_i c ver
    obtain ⟨x, rfl, hx0⟩ := one_arg hs rfl
    have hx := hx 0
    rw [hx0] at hx
    simp only [List.getD_cons_zero] at hx
    split at hT
    · rename_i v e ks l hm
      split at hT
      · rename_i hb
        rw [Bool.and_eq_true] at hb
        have hv := Nat.eq_of_beq_eq_true hb.1
        have hk := cksEq_eq _ _ hb.2
        subst hv hk
        obtain ⟨v', g1, g2⟩ := hx.inv_osl
        rw [hm] at g1
        simp only [verOf, Option.some.injEq] at g1
        have hxe := g2 g1
        have hc := h.ch c
        rw [show lkO (St.mem ⟨[], m⟩) c = lkO m c from rfl, hm] at hc
        obtain ⟨hl, hcase⟩ := row_ints hc
        rcases hcase with ⟨e1, e2⟩ | ⟨g, cap, cur, e1, hh, hn, hcm, hsz, hH⟩
        · subst e2
          rw [hxe, e1]
          refine (Try.slices_Compact_int_empty none 0 w).mono (fun e' w' hpost => ?_)
          obtain ⟨rfl, rfl⟩ := hpost
          have r1 := Rel.row (cx := cx0) (s := ⟨[], m⟩) (a := ⟨#[], []⟩) (row := none) (c := c) (ver := v + 1) (e := e) (ks := [.int .i64]) (l := []) (x := .slice none 0 0) (d := none) (fz := []) (xs := []) h rfl (fun _ => rfl)
            (.inr ⟨v, by rw [show lkO (St.mem ⟨[], m⟩) c = lkO m c from rfl, hm]; rfl, Nat.lt_succ_self _⟩) ⟨rfl, rfl, rfl, Nat.le_refl _, fun _ _ _ => rfl⟩ (fun k hk => by cases hk) (fun b hb => by cases hb) (fun v hv => by cases hv) ⟨rfl, .inl ⟨rfl, rfl⟩⟩ (fun i j hi => by simp at hi) (fun k hk => by cases hk)
          refine ⟨_, _, _, _, rfl, r1, ?_, hK_of hT⟩
          exact .osl _ c (v + 1) (v + 1) (by show verOf (lkO ((c, _) :: m) c) = _; rw [lkO_cons, if_pos rfl]; rfl) (Nat.le_refl _) (fun _ => by simp [Env.withRow])
        · have hg : E.loc c = some g := by rw [hl, e1]; rfl
          have hgl := (h.loc c g hg).1
          have hlen : l.length = (ints l).length := (ints_length l).symm
          have hcall := Try.slices_Compact_int g 0 cap (ints l) w hH (by have : maxLen = 9223372036854775807 := by decide
                                                                         omega) (by omega)
          rw [hxe, e1, hlen]
          refine hcall.mono (fun e' w' hpost => ?_)
          obtain ⟨rfl, q, rfl⟩ := hpost
          rw [cmpZ_is]
          have hcl := cmpZ_len (ints l)
          have hlt : (cmpZ (ints l) ++ List.replicate ((ints l).length - (cmpZ (ints l)).length) (0 : Int)).length = (ints l).length := by simp; omega
          have hrow := row_put (E := E) (w' := Sort.putRow (Value.int .i64) (Sort.ahead w q) g 0 (cmpZ (ints l) ++ List.replicate ((ints l).length - (cmpZ (ints l)).length) 0).toArray) (c := c) (e := e) (d := cmpZ (ints l)) hl e1 (pt_at _ hh) (by omega) hcm (by rw [pt_size]; exact hsz)
            (by rw [pt_take _ _ _ (by omega) (by omega), List.take_left])
          have hother : ∀ k, k ≠ g → (Sort.putRow (Value.int .i64) (Sort.ahead w q) g 0 (cmpZ (ints l) ++ List.replicate ((ints l).length - (cmpZ (ints l)).length) 0).toArray).heap[k]? = w.heap[k]? := fun k hk => by rw [pt_other _ hk]; rfl
          have hsize : (Sort.putRow (Value.int .i64) (Sort.ahead w q) g 0 (cmpZ (ints l) ++ List.replicate ((ints l).length - (cmpZ (ints l)).length) 0).toArray).heap.size = w.heap.size := by simp [Sort.ahead]
          have hos : (Sort.putRow (Value.int .i64) (Sort.ahead w q) g 0 (cmpZ (ints l) ++ List.replicate ((ints l).length - (cmpZ (ints l)).length) 0).toArray).os = w.os := rfl
          have hta : (Sort.putRow (Value.int .i64) (Sort.ahead w q) g 0 (cmpZ (ints l) ++ List.replicate ((ints l).length - (cmpZ (ints l)).length) 0).toArray).tape = w.tape := rfl
          have hou : (Sort.putRow (Value.int .i64) (Sort.ahead w q) g 0 (cmpZ (ints l) ++ List.replicate ((ints l).length - (cmpZ (ints l)).length) 0).toArray).output = w.output := rfl
          generalize Sort.putRow (Value.int .i64) (Sort.ahead w q) g 0 (cmpZ (ints l) ++ List.replicate ((ints l).length - (cmpZ (ints l)).length) 0).toArray = w1 at hrow hother hsize hos hta hou ⊢
          have e3 : (iSV (cmpZ (ints l))).length = (cmpZ (ints l)).length := by simp [iSV]
          have hm' : lkO (St.mem ⟨[], m⟩) c = some (.row v e [.int .i64] l) := hm
          have r1 := Rel.row (cx := cx0) (s := ⟨[], m⟩) (a := ⟨#[], []⟩) (w' := w1) (row := some g) (c := c) (ver := v + 1) (e := e) (ks := [.int .i64]) (l := iSV (cmpZ (ints l))) (x := .slice (some ⟨g, 0, none⟩) (cmpZ (ints l)).length cap) (d := none) (fz := []) h rfl (fun _ => rfl)
            (.inr ⟨v, by rw [hm']; rfl, Nat.lt_succ_self _⟩) ⟨hos, hta, hou, by omega, fun k _ hk => hother k (fun e => hk (by rw [e]))⟩ (fun k hk => by cases hk; exact hg)
            (fun b hb => by cases hb; exact ⟨by show g < _; omega, .inl ⟨by rw [hm']; simp, hg⟩⟩) (iSV_sh _) (by rw [e3]; exact hrow.1) hrow.2 (fun k hk => by cases hk)
          refine ⟨_, _, _, _, rfl, r1, ?_, hK_of hT⟩
          exact .osl _ c (v + 1) (v + 1) (by show verOf (lkO ((c, _) :: m) c) = _; rw [lkO_cons, if_pos rfl]; rfl) (Nat.le_refl _) (fun _ => by simp [Env.withRow])
      · exact hT.elim
    · exact hT.elim
  · obtain ⟨x, rfl, hx0⟩ := one_arg hs rfl
    have hx := hx 0
    rw [hx0] at hx
    have hn := (show CV E (lkO m) w x .nilsl from hx).inv_nilsl
    rw [hn]
    refine (Try.slices_Compact_int_empty none 0 w).mono (fun e' w' hpost => ?_)
    obtain ⟨rfl, rfl⟩ := hpost
    exact ⟨_, _, _, E, rfl, h, .conc _ _ .nilsl, hT⟩
  · exact hT.elim
where hK_of {p : Prop} (h : p) : p := h
def lays8n4_ren : Go.Shelf.Ren := ⟨fun | 4 => 40 | n => n, fun | 0 => 0 | 3 => 3 | 4 => 4 | 9 => 9 | 20 => 20 | 22 => 23 | 25 => 37 | n => n, fun | n => n⟩
theorem lays8n4 : Go.Proofs.Lays8.n4 Try.prog lays8n4_ren := {
  mixed := by kernel_rfl
  f4 := ⟨Try.f40.name, by decide, Try.func40.trans (congrArg some (by kernel_rfl))⟩
  t0 := Try.underlying0
  a0 := Try.isAgg0
  z0 := Try.sizeOf0
  v0 := Try.zeroValue0
  t3 := Try.underlying3
  a3 := Try.isAgg3
  z3 := Try.sizeOf3
  v3 := Try.zeroValue3
  t4 := Try.underlying4
  a4 := Try.isAgg4
  z4 := Try.sizeOf4
  v4 := Try.zeroValue4
  t9 := Try.underlying9
  a9 := Try.isAgg9
  z9 := Try.sizeOf9
  v9 := Try.zeroValue9
  t20 := Try.underlying20
  a20 := Try.isAgg20
  z20 := Try.sizeOf20
  v20 := Try.zeroValue20
  t22 := Try.underlying23
  a22 := Try.isAgg23
  z22 := Try.sizeOf23
  v22 := Try.zeroValue23 }
theorem two_args {xs : Array Value} {us : List SV} {u v : SV} (hs : xs.size = us.length) (ha : us = [u, v]) : ∃ x y, xs = #[x, y] := by
  subst ha
  obtain ⟨l⟩ := xs
  match l, hs with
  | [x, y], _ => exact ⟨x, y, rfl⟩
set_option maxHeartbeats 1600000 in
theorem grow_in : InK Try.prog 40 tr_grow := by
  refine ⟨fnB_ok (by kernel_rfl), fun off B M I0 G w0 E m w us xs K h hs hx hT => ?_⟩
  unfold tr_grow at hT
  split at hT
  · rename_i k n
    obtain ⟨x, y, rfl⟩ := two_args hs rfl
    have hx1 : CV E (lkO m) w x .nilsl := hx 0
    have hx2 : CV E (lkO m) w y (.int k n) := hx 1
    split at hT
    · rename_i hfree hk
      have hk : k = .i64 := of_decide_eq_true hk
      subst hk
      obtain ⟨⟨hn0, hn1⟩, hK⟩ := hT
      obtain ⟨u, rfl⟩ : ∃ u : Nat, n = u := ⟨n.toNat, by omega⟩
      have ex := hx1.inv_nilsl
      have ey := conc_int (closed_conc _ _ rfl hx2)
      subst ex ey
      obtain ⟨inf, z, i1, i2, i3, i4, i5, i6, i7⟩ := (tyT_ok 37 _ rfl).info
      have i2 : inf.size = 3 := i2
      have i3 : inf.bytes = 24 := i3
      have i5 : z.cells.size = 3 := i5
      have hcall := Any8.slices_Grow_grow lays8n4 inf z i1 i4 (by omega) none 0 0 u [] w (Nat.le_refl _) (by omega) (by rw [i3]; omega) (by omega) (by simp) (fun _ => rfl) (fun a ha => by cases ha)
      refine hcall.mono (fun e' w' hpost => ?_)
      obtain ⟨rfl, hw⟩ := hpost
      simp only [Nat.zero_add] at hw ⊢
      generalize hcur : ((#[] : Array Value) ++ Builtin.zeroCells z.cells (u - 0) ++ Builtin.zeroCells z.cells (grownCap w u 0 (lays8n4_ren.t 25) - u)) = cur at hw
      have hcs : cur.size = grownCap w u 0 (lays8n4_ren.t 25) * 3 := by
        have := grownCap_ge w u 0 (lays8n4_ren.t 25)
        rw [← hcur]
        simp only [Array.size_append, size_zeroCells, i5, List.size_toArray, List.length_nil, Nat.zero_add, Nat.sub_zero]
        rw [← Nat.add_mul]
        congr 1
        omega
      have hcm := grownCap_le_maxLen w u 0 (lays8n4_ren.t 25) (by simp only [maxLen]; omega)
      have e25 : lays8n4_ren.t 25 = 37 := rfl
      rw [e25] at hw hcs hcm ⊢
      subst hw
      have hfree' : lkO (St.mem ⟨[], m⟩) (off + 1) = none := hfree
      have r1 := Rel.row (cx := cx0) (s := ⟨[], m⟩) (a := ⟨#[], []⟩) (w' := w.drew.alloc (.cells cur 37)) (row := none) (c := off + 1) (ver := 0) (e := 37) (ks := lineK) (l := []) (x := .slice (some ⟨w.heap.size, 0, none⟩) 0 (grownCap w u 0 37)) (d := none) (fz := []) (xs := []) h rfl (fun _ => rfl)
        (.inl ⟨hfree', rfl⟩) ⟨rfl, rfl, rfl, by simp, fun k hk _ => heap_push w.drew _ k hk⟩ (fun k hk => by cases hk) (fun b hb => by cases hb; exact ⟨by simp, .inr (Nat.le_refl _)⟩) (fun v hv => by cases hv)
        ⟨rfl, .inr ⟨w.heap.size, _, cur, rfl, Nat.zero_le _, heap_new w.drew _, Nat.zero_le _, hcm, hcs, by simp⟩⟩ (fun i j hi => by simp at hi) (fun k hk => by cases hk)
      refine ⟨_, _, _, _, rfl, r1, ?_, hK⟩
      exact .osl _ (off + 1) 0 0 (by show verOf (lkO ((off + 1, _) :: m) (off + 1)) = _; rw [lkO_cons, if_pos rfl]; rfl) (Nat.le_refl _) (fun _ => by simp [Env.withRow])
    · exact hT.elim
  · exact hT.elim
end Go.Rx
