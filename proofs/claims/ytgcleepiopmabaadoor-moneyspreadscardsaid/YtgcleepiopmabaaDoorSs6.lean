/- The library's stable sort of places by what is left out there, as what it makes of a row of the caller's own: a permutation. -/
import Derived.Test.YtgcleepiopmabaaDoorSs5
namespace Go.Rx
open Go.Proofs
set_option linter.unusedSimpArgs false
set_option linter.unusedVariables false

def iSV (l : List Int) : List SV := l.map (SV.int .i64)
def inrB (l : List SV) : Bool := (ints l).all fun z => decide (0 ≤ z) && decide (z < l.length)
def tr_sstab : Tr := fun _ us m K => match us with
  | [.osl c ver, .fn g [.ptr bx 0]] => match lkO m c with
    | some (.row v e ks l) => match lkO m bx with
      | some (.box _ [.osl r vr]) => match lkO m r with
        | some (.row v2 _ ks2 R) => match Nat.beq v ver && (Nat.beq v2 vr && (cksEq ks [.int .i64] && (cksEq ks2 [.int .u64] && (Nat.beq g 52 && !(Nat.beq c r))))) with
          | true => Ob (0 < l.length ∧ l.length < 1152921504606846976 ∧ inrB l = true ∧ l.length = R.length) ∧ ∀ p : List Int, p.Perm (ints l) → K (.tup []) ((c, .row v e ks (iSV p)) :: m)
          | false => False
        | _ => False
      | _ => False
    | _ => False
  | _ => False
open Go.RowKit Go.Sort
section
variable {α : Type} [Inhabited α] (enc : α → Value)
theorem qt_at {w : World} {g : Nat} {cur : Array Value} {e : Nat} (d : Array α) (h : w.heap[g]? = some (.cells cur e (0, 0))) :
    (Sort.putRow enc w g 0 d).heap[g]? = some (.cells (Sort.putCells enc 0 d cur) e (0, 0)) := by
  simp [Sort.putRow, Sort.mapBlock, Array.getElem?_modify, h, Sort.onCells]
theorem qt_other {w : World} {g k : Nat} (d : Array α) (h : k ≠ g) : (Sort.putRow enc w g 0 d).heap[k]? = w.heap[k]? := by
  simp [Sort.putRow, Sort.mapBlock, Array.getElem?_modify, Ne.symm h]
theorem qt_size (d : Array α) (cur : Array Value) : (Sort.putCells enc 0 d cur).size = cur.size := by simp [Sort.putCells]
theorem qt_get (d : Array α) (cur : Array Value) (j : Nat) : (Sort.putCells enc 0 d cur)[j]? = if j < d.size then cur[j]?.map (fun _ => enc d[j]!) else cur[j]? := by
  simp only [Sort.putCells, Array.getElem?_mapIdx, Nat.zero_le, true_and, Nat.zero_add, Nat.sub_zero]
  split
  · cases cur[j]? <;> rfl
  · cases cur[j]? <;> rfl
theorem qt_take (d : Array α) (cur : Array Value) (hc : d.size ≤ cur.size) : (Sort.putCells enc 0 d cur).toList.take d.size = d.toList.map enc := by
  apply List.ext_getElem?
  intro j
  rw [List.getElem?_take, List.getElem?_map, Array.getElem?_toList, Array.getElem?_toList, qt_get]
  by_cases hj : j < d.size
  · rw [if_pos hj, if_pos hj, Array.getElem?_eq_getElem (by omega), Array.getElem?_eq_getElem hj]
    simp only [Option.map_some]
    rw [getElem!_pos d j hj]
  · rw [if_neg hj, Array.getElem?_eq_none (by omega)]; rfl
end
theorem conc_intK {I : Nat → Prop} {w : World} {x : Value} {k : IntKind} {n : Int} (h : Conc I w x (.int k n)) : x = .int k n := by cases h; rfl
/-- A row of whole numbers: its cells. -/
theorem row_intF {E : Env} {w : World} {c e : Nat} {k : IntKind} {l : List SV} (h : RowR E w c e [.int k] l) (h0 : 0 < l.length) :
    ∃ g cap cur, E.loc c = some g ∧ E.cv c = .slice (some ⟨g, 0, none⟩) l.length cap ∧ E.loc c = (E.cv c).ownBlock ∧ w.heap[g]? = some (.cells cur e (0, 0)) ∧ l.length ≤ cap ∧ cap ≤ maxLen ∧ cur.size = cap ∧ ∀ j, j < l.length → cur[j]? = some (.int k (elCell l j 0).toInt) := by
  obtain ⟨h1, ⟨h2, xs, ⟨ho1, ho2⟩, h4⟩ | ⟨z1, z2, ad, z3⟩⟩ := h
  rotate_left
  · rw [z1] at h0; exact absurd h0 (Nat.lt_irrefl _)
  rcases ho2 with ⟨e1, e2⟩ | ⟨g, cap, cur, e1, hg, hh, hn, hm, hs, ht⟩
  · omega
  · simp only [List.length_cons, List.length_nil, Nat.zero_add, Nat.mul_one] at ho1 hs ht h4
    refine ⟨g, cap, cur, by rw [h2, e1]; rfl, e1, h2, hh, hn, hm, hs, fun j hj => ?_⟩
    have h5 := h4 j 0 hj (by omega)
    have hsh := (h1 (l.getD j .any) (by rw [List.getD_eq_getElem?_getD, List.getElem?_eq_getElem hj]; exact List.getElem_mem hj)).2 0 (by simp)
    obtain ⟨n, hn'⟩ : ∃ n, elCell l j 0 = .int k n := hsh
    rw [Nat.add_zero, hn'] at h5
    have hx : xs.getD j undef = .int k n := conc_intK h5
    have : (cur.toList.take l.length)[j]? = some (xs.getD j undef) := by rw [ht, List.getD_eq_getElem?_getD, List.getElem?_eq_getElem (by omega)]; rfl
    rw [List.getElem?_take, if_pos hj, Array.getElem?_toList] at this
    rw [this, hx, hn']; rfl
theorem iSV_sh (d : List Int) : ∀ v, v ∈ iSV d → shOk [.int .i64] v := by
  intro v hv
  obtain ⟨n, _, rfl⟩ := List.mem_map.1 hv
  refine ⟨rfl, fun j hj => ?_⟩
  have : j = 0 := by simp at hj; omega
  subst this
  exact ⟨n, rfl⟩
theorem iSV_len (d : List Int) : (iSV d).length = d.length := List.length_map ..
theorem row_putI {I : Nat → Prop} {w' : World} {e g cap : Nat} {cur : Array Value} {d : List Int} (hh : w'.heap[g]? = some (.cells cur e (0, 0)))
    (hc : d.length ≤ cap) (hm : cap ≤ maxLen) (hs : cur.size = cap) (ht : cur.toList.take d.length = d.map (Value.int .i64)) :
    w'.ownsRow 0 e 1 (.slice (some ⟨g, 0, none⟩) d.length cap) d.length (d.map (Value.int .i64)) ∧ ∀ i j, i < d.length → j < 1 → Conc I w' ((d.map (Value.int .i64)).getD (i * 1 + j) undef) (elCell (iSV d) i j) := by
  refine ⟨⟨by simp, .inr ⟨g, cap, cur, rfl, Nat.zero_le _, hh, hc, hm, by omega, by simpa using ht⟩⟩, fun i j hi hj => ?_⟩
  have hj : j = 0 := by omega
  subst hj
  have e1 : (d.map (Value.int .i64)).getD (i * 1 + 0) undef = .int .i64 (d[i]) := by simp [List.getD_eq_getElem?_getD, hi]
  have e2 : elCell (iSV d) i 0 = .int .i64 (d[i]) := by
    unfold elCell iSV
    simp [List.getD_eq_getElem?_getD, hi, SV.cells]
  rw [e1, e2]
  exact .int _ _
def cx0 : Cx := ⟨0, [], [], false, 0, [], false⟩
theorem two_args {xs : Array Value} {us : List SV} {u v : SV} (hs : xs.size = us.length) (ha : us = [u, v]) : ∃ x y, xs = #[x, y] := by
  subst ha
  obtain ⟨l⟩ := xs
  match l, hs with
  | [x, y], _ => exact ⟨x, y, rfl⟩
/-- What is left out, by the place. -/
def rsV (R : List SV) (z : Int) : Int := (elCell R z.toNat 0).toInt
def encF (N : Nat) (i : Fin N) : Value := .int .i64 (i.val : Int)
def cfF (N : Nat) (R : List SV) (x y : Fin N) : Int := cmpR (rsV R x.val) (rsV R y.val)
theorem lt_cfF (N : Nat) (R : List SV) (x y : Fin N) : ltOf (cfF N R) x y = decide (rsV R y.val < rsV R x.val) := by
  unfold ltOf cfF cmpR
  generalize rsV R x.val = a
  generalize rsV R y.val = b
  by_cases h : b < a
  · rw [if_pos h, decide_eq_true h]; rfl
  · rw [if_neg h, decide_eq_false h]
    split <;> rfl
theorem swoF (N : Nat) (R : List SV) : SWO (ltOf (cfF N R)) where
  irrefl x := by rw [lt_cfF]; simp
  trans x y z h1 h2 := by rw [lt_cfF, decide_eq_true_eq] at *; omega
  ntrans x y z h1 h2 := by rw [lt_cfF, decide_eq_false_iff_not] at *; omega
def toF (N : Nat) (hN : 0 < N) (z : Int) : Fin N := ⟨z.toNat % N, Nat.mod_lt _ hN⟩
theorem toF_val {N : Nat} {hN : 0 < N} {z : Int} (h : 0 ≤ z ∧ z < N) : ((toF N hN z).val : Int) = z := by
  show ((z.toNat % N : Nat) : Int) = z
  rw [Nat.mod_eq_of_lt (by omega)]; omega
theorem inr_get {l : List SV} (h : inrB l = true) {j : Nat} (hj : j < l.length) : 0 ≤ (elCell l j 0).toInt ∧ (elCell l j 0).toInt < l.length := by
  have hl : j < (ints l).length := by rw [ints_length]; exact hj
  have := List.all_eq_true.1 h ((ints l)[j]) (List.getElem_mem hl)
  rw [Bool.and_eq_true, decide_eq_true_eq, decide_eq_true_eq] at this
  have e : (elCell l j 0).toInt = (ints l)[j] := by
    rw [ints_get l j hj, List.getD_eq_getElem?_getD, List.getElem?_eq_getElem hl]; rfl
  rw [e]; exact this
set_option maxHeartbeats 1600000 in
theorem sstab_in : InK Tryd.prog 51 tr_sstab := by
  refine ⟨fnB_ok (by kernel_rfl), fun off B M I0 G w0 E m w us xs K h hs hx hT => ?_⟩
  unfold tr_sstab at hT
  split at hT
  · rename_i c ver gg bx
    obtain ⟨x, y, rfl⟩ := two_args hs rfl
    have hx1 : CV E (lkO m) w x (.osl c ver) := hx 0
    have hx2 : CV E (lkO m) w y (.fn gg [.ptr bx 0]) := hx 1
    split at hT
    · rename_i v e ks l hm
      split at hT
      · rename_i tb r vr hmb
        split at hT
        · rename_i v2 e2 ks2 R hmr
          split at hT
          · rename_i hb
            simp only [Bool.and_eq_true, Bool.not_eq_true'] at hb
            obtain ⟨b1, b2, b3, b4, b5, b6⟩ := hb
            have b1 := Nat.eq_of_beq_eq_true b1
            have b2 := Nat.eq_of_beq_eq_true b2
            have b3 := cksEq_eq _ _ b3
            have b4 := cksEq_eq _ _ b4
            have b5 := Nat.eq_of_beq_eq_true b5
            subst b1 b2 b3 b4 b5
            have hcr : c ≠ r := fun e => by subst e; rw [Nat.beq_refl] at b6; cases b6
            obtain ⟨⟨ho1, ho2, ho3, ho4⟩, hK⟩ := hT
            obtain ⟨v', g1, g2⟩ := hx1.inv_osl
            rw [hm] at g1
            simp only [verOf, Option.some.injEq] at g1
            have hxe := g2 g1
            obtain ⟨ys, y1, y2, y3⟩ := hx2.inv_fn
            have y30 : CV E (lkO m) w (ys.getD 0 undef) (.ptr bx 0) := y3 0
            obtain ⟨bb, tb', cs', z1, z2, z3⟩ := y30.inv_ptr
            have hys : ys = #[.pointer (some ⟨bb, 0, none⟩)] := by
              obtain ⟨yl⟩ := ys
              match yl, y2 with
              | [q], _ =>
                have z1 : q = .pointer (some ⟨bb, 0, none⟩) := z1
                rw [z1]
            have hc := h.ch c
            rw [show lkO (St.mem ⟨[], m⟩) c = lkO m c from rfl, hm] at hc
            have hcb := h.ch bx
            rw [show lkO (St.mem ⟨[], m⟩) bx = lkO m bx from rfl, hmb] at hcb
            have hcr' := h.ch r
            rw [show lkO (St.mem ⟨[], m⟩) r = lkO m r from rfl, hmr] at hcr'
            obtain ⟨g, cap, cur, hl, ev, hob, hh, hn, hcm, hsz, hcell⟩ := row_intF hc ho1
            obtain ⟨rg, rcap, rcur, rl, rev, _, rh, rn, _, rsz, rcell⟩ := row_intF hcr' (by omega)
            obtain ⟨bb', bys, w1, w2, w3, w4⟩ := hcb
            rw [z3] at w1
            cases w1
            obtain ⟨v'', q1, q2⟩ := (show CV E (lkO m) w (bys.getD 0 undef) (.osl r v2) from w4 0).inv_osl
            rw [hmr] at q1
            simp only [verOf, Option.some.injEq] at q1
            have hby := q2 q1
            rw [rev] at hby
            have hgl := (h.loc c g hl).1
            have hbl := (h.loc bx bb z3).1
            have hrl := (h.loc r rg rl).1
            have hbg : bb ≠ g := fun e => by
              have := h.inj bx c bb z3 (by rw [e]; exact hl)
              subst this
              rw [hm] at hmb; cases hmb
            have hrg : rg ≠ g := fun e => hcr (h.inj c r g hl (by rw [← e]; exact rl))
            haveI : Inhabited (Fin l.length) := ⟨⟨0, ho1⟩⟩
            have hcellr : ∀ j, j < l.length → ((toF l.length ho1 ((ints l).getD j 0)).val : Int) = (elCell l j 0).toInt := fun j hj => by
              rw [← ints_get l j hj]; exact toF_val (inr_get ho3 hj)
            have hdl : ((ints l).map (toF l.length ho1)).toArray.size = l.length := by rw [List.size_toArray, List.length_map, ints_length]
            obtain ⟨d, hd⟩ : ∃ d : Array (Fin l.length), d = ((ints l).map (toF l.length ho1)).toArray := ⟨_, rfl⟩
            rw [← hd] at hdl
            have hdget : ∀ j, j < l.length → (d[j]!).val = toF l.length ho1 ((ints l).getD j 0) := fun j hj => by
              rw [getElem!_pos d j (by omega)]
              subst hd
              have hj2 : j < (ints l).length := by rw [ints_length]; exact hj
              simp [List.getD_eq_getElem?_getD, List.getElem?_eq_getElem hj2]
            have hH : Sort.Holds (encF l.length) w g 0 d := fun j hj => by
              rw [hdl] at hj
              refine ⟨?_, by simp [World.frozen?, hh]⟩
              simp only [World.cell?, hh, Nat.zero_add]
              rw [if_neg (by simp), hcell j hj]
              show some (Value.int .i64 _) = some (Value.int .i64 ((d[j]!).val : Int))
              rw [hdget j hj, hcellr j hj]
            have hcmp : CmpLays1 Tryd.prog 52 #[.pointer (some ⟨bb, 0, none⟩)] (encF l.length) (cfF l.length R) g 0 d.size w := fun mm os dk hsd x y => by
              have hold : ∀ k, k < w.heap.size → k ≠ g → (sortWorld (encF l.length) w g 0 mm dk os).heap[k]? = w.heap[k]? := fun k hk hkg => by
                unfold sortWorld
                rw [Sort.heap_grow_old _ _ (by simpa [Sort.putRow, Sort.mapBlock, Sort.ahead] using hk), qt_other _ _ hkg]; rfl
              have hbxc : (sortWorld (encF l.length) w g 0 mm dk os).cell? ⟨bb, 0, none⟩ = some (.slice (some ⟨rg, 0, none⟩) R.length rcap) := by
                simp only [World.cell?, hold bb hbl hbg, w2]
                rw [if_neg (by simp)]
                rw [← hby]
                have : 0 < bys.size := by rw [w3]; exact Nat.succ_pos 0
                rw [Array.getD_eq_getD_getElem?, Array.getElem?_eq_getElem this]; rfl
              have hrc : ∀ z : Fin l.length, (sortWorld (encF l.length) w g 0 mm dk os).cell? ⟨rg, 0 + z.val, none⟩ = some (.int .u64 (rsV R z.val)) := fun z => by
                simp only [World.cell?, hold rg hrl hrg, rh, Nat.zero_add]
                rw [if_neg (by simp), rcell z.val (by rw [← ho4]; exact z.isLt)]
                unfold rsV
                rw [Int.toNat_natCast]
              refine (Tryd.give1 bb rg 0 R.length rcap x.val y.val _ _ _ hbxc (hrc x) (hrc y) (by rw [← ho4]; exact x.isLt) (by rw [← ho4]; exact y.isLt)).mono ?_
              rintro e w' ⟨q1, q, rfl⟩
              exact ⟨q1, q, #[], by rw [Sort.grow_empty]⟩
            have hcall := Tryd.sortStable (encF l.length) (cfF l.length R) 52 #[.pointer (some ⟨bb, 0, none⟩)] g 0 cap d w (enters_of Tryd.func52 (by kernel_rfl) rfl) hcmp (swoF _ _) ⟨fun _ => rfl, hH, hgl⟩ (by rw [hdl]; exact ho2)
            rw [hdl] at hcall
            rw [hxe, ev, y1, hys]
            refine hcall.mono (fun e' w' hpost => ?_)
            obtain ⟨rfl, dk, hp, nn, os, rfl⟩ := hpost
            have hds : dk.size = l.length := by rw [hp.1, hdl]
            have hperm : dk.toList.Perm d.toList := by
              have := hp.2.2
              rw [Array.extract_eq_self_of_le (by omega), Array.extract_eq_self_of_le (by omega)] at this
              exact this
            have hdi : d.toList.map (fun i => (i.val : Int)) = ints l := by
              apply List.ext_getElem?
              intro j
              rw [List.getElem?_map, Array.getElem?_toList]
              by_cases hj : j < l.length
              · rw [Array.getElem?_eq_getElem (by omega), List.getElem?_eq_getElem (by rw [ints_length]; exact hj)]
                simp only [Option.map_some, Option.some.injEq]
                have h1 := hdget j hj
                rw [getElem!_pos d j (by omega)] at h1
                rw [h1, hcellr j hj, ints_get l j hj, List.getD_eq_getElem?_getD, List.getElem?_eq_getElem (by rw [ints_length]; exact hj)]; rfl
              · rw [Array.getElem?_eq_none (by omega), List.getElem?_eq_none (by rw [ints_length]; omega)]; rfl
            have hpi : (dk.toList.map (fun i => (i.val : Int))).Perm (ints l) := by rw [← hdi]; exact hperm.map _
            have hK' := hK _ hpi
            have hpl : (dk.toList.map (fun i => (i.val : Int))).length = l.length := by rw [List.length_map, Array.length_toList, hds]
            have hte : dk.toList.map (encF l.length) = (dk.toList.map (fun i => (i.val : Int))).map (Value.int .i64) := by rw [List.map_map]; rfl
            generalize hP : dk.toList.map (fun i => (i.val : Int)) = p at hpi hK' hpl hte
            have hrow := row_putI (I := E.I) (w' := Sort.putRow (encF l.length) (Sort.ahead w nn) g 0 dk) (e := e) (g := g) (cap := cap) (d := p) (qt_at _ _ (show (Sort.ahead w nn).heap[g]? = _ from hh)) (by omega) hcm (by rw [qt_size]; exact hsz)
              (by rw [show p.length = dk.size by rw [hpl, hds], qt_take _ _ _ (by omega), hte])
            have r1 := Rel.storeRow (cx := cx0) (s := ⟨[], m⟩) (a := ⟨#[], []⟩) (l' := iSV p) (d := none) (x := .tuple #[]) (u := .tup []) (w' := Sort.putRow (encF l.length) (Sort.ahead w nn) g 0 dk) h hm hl
              (fun k hk => by rw [qt_other _ _ hk]; rfl) (by simp [Sort.putRow, Sort.mapBlock, Sort.ahead]) ⟨rfl, rfl, rfl⟩
              ⟨iSV_sh _, .inl ⟨hob, _, by rw [ev, iSV_len, hpl]; rw [hpl] at hrow; exact hrow.1, fun i j hi hj => hrow.2 i j (by rw [iSV_len] at hi; exact hi) hj⟩⟩ (fun k hk => by cases hk) (.conc _ _ (.tup #[] [] rfl (fun i => by simpa using Conc.any _)))
            have r2 := Rel.called (cx := cx0) (I' := E.I) (w' := Sort.grow (Sort.putRow (encF l.length) (Sort.ahead w nn) g 0 dk) os) (x := .tuple #[]) (v := .tup []) (d := none) r1
              ⟨rfl, rfl, rfl, by simp, fun k hk _ => Sort.heap_grow_old _ _ hk⟩ (fun _ h => h) (fun b hb => ⟨Nat.lt_of_lt_of_le (r1.inew b hb).1 (by rw [Sort.size_grow]; exact Nat.le_add_right _ _), .inl hb⟩) (.tup #[] [] rfl (fun i => by simpa using Conc.any _)) (fun k hk => by cases hk)
            exact ⟨_, _, _, _, rfl, r2, .conc _ _ (.tup #[] [] rfl (fun i => by simpa using Conc.any _)), hK'⟩
          · exact hT.elim
        · exact hT.elim
      · exact hT.elim
    · exact hT.elim
  · exact hT.elim
end Go.Rx

