/- An order is put in: slices.Insert, gone through by hand. -/
import Derived.Test.YtemmckefdgklaaaOr2
import Derived.Shelf.Spec.SlicesInsertGrow
import Derived.Tactics
import Derived.Tactics2
import Derived.WalkKit
import Derived.KernelRfl
namespace Go.Rx
open Go.Proofs Go.Shelf Go.RowKit Go.Lib
set_option linter.unusedSimpArgs false
set_option linter.unusedVariables false

def insC : Con := ⟨fun us => match us with
  | [.fsl ks L, .int .i64 i, .sl ks' m] => some (Ob (ks = stK ∧ ks' = stK ∧ m.length = 1 ∧ 0 ≤ i ∧ i ≤ L.length ∧ L.length ≤ 1000))
  | _ => some False, fun us => match us with
  | [.fsl _ L, .int .i64 i, .sl _ m] => .sl stK (L.take i.toNat ++ m ++ L.drop i.toNat)
  | _ => .any⟩
theorem hidQ {p : Prop} (h : p) : Hid p := h
def zSt : Value := .agg #[.int .i64 0, .int .i64 0, .int .i64 0, .int .i64 0, .int .i64 0, .int .i64 0, .int .i64 0]
theorem un32 : Try.prog.underlying 32 = some (.slice 31) := by kernel_rfl
theorem un3 : Try.prog.underlying 3 = some (.int .i64) := by kernel_rfl
theorem in31 : ∃ i, Try.prog.info? 31 = some i ∧ i.zero = some zSt ∧ i.size = 7 ∧ i.bytes = 56 := by
  refine ⟨(Try.prog.info? 31).get (by kernel_rfl), ?_, ?_, ?_, ?_⟩
  · exact (Option.some_get _).symm
  all_goals kernel_rfl
theorem zSt_size : zSt.cells.size = 7 := by decide
theorem zc_size (n : Nat) : (Builtin.zeroCells zSt.cells n).size = 7 * n := by
  simp [Builtin.zeroCells, zSt_size, Nat.mul_comm]
theorem copy_at {P : Program} [Laid P] {w : World} {t t2 ty e : Nat} {inf : TypeInfo} (ht : P.underlying t = some (.slice e)) (hi : P.info? e = some inf) {g o dl dc sl sc : Nat} {cur : Array Value} {e' : Nat} {ad : Addr} {cs : List Value}
    (hg : w.heap[g]? = some (.cells cur e' (0, 0))) (hl : cs.length = Nat.min sl dl * inf.size) (hsrc : ∀ j v, cs[j]? = some v → w.cell? (ad.add j) = some v) (hfit : o + cs.length ≤ cur.size) (h1 : ∀ v ∈ cs, v.oneCell' = true) :
    (Builtin.copy_ #[t, t2] ty #[.slice (some ⟨g, o, none⟩) dl dc, .slice (some ad) sl sc]).run P w = .ok (.int .i64 (Nat.min sl dl : Nat)) (w.setRow g (cur.toList.take o ++ cs ++ cur.toList.drop (o + cs.length)).toArray) := by
  have hld := run_loadCells_list (P := P) w ad cs hsrc
  have hst := run_storeCells_at P g o e' cs 0 cur w hg (by simpa using hfit) h1
  simp only [Nat.add_zero] at hst
  rw [hl] at hld
  simp [Builtin.copy_, run_underlying ht, Builtin.lenOf, Builtin.firstCells, run_size hi, hld, hst, goInt]
set_option maxHeartbeats 4000000 in
set_option maxRecDepth 100000 in
theorem ins_end (base : Option Addr) (n vb voff vc : Nat) (cs vs : List Value) (w : World) (hn8 : n ≤ 1000) (hcl : cs.length = n * 7) (hvl : vs.length = 7) (hnil : base = none → n = 0)
    (hcs : ∀ a, base = some a → ∀ j v, cs[j]? = some v → w.cell? (a.add j) = some v) (hvs : ∀ j v, vs[j]? = some v → w.cell? ⟨vb, voff + j, none⟩ = some v) (h1v : ∀ v ∈ vs, v.oneCell' = true) :
    Calls Try.prog 17 #[.slice base n n, .int .i64 n, .slice (some ⟨vb, voff, none⟩) 1 vc] w fun e w' =>
      e = .returned (.slice (some ⟨w.heap.size, 0, none⟩) (n + 1) (grownCap w (n + 1) n 31)) ∧
      w' = w.drew.alloc (.cells ((cs ++ vs).toArray ++ Builtin.zeroCells zSt.cells (grownCap w (n + 1) n 31 - (n + 1))) 31) := by
  obtain ⟨i0, hi0, hz0, hzs, hzb⟩ := in31
  have hsrc : Src Try.prog i0.size 32 (.slice (some ⟨vb, voff, none⟩) 1 vc) 1 vs w := by
    rw [hzs]
    exact Src.ofSlice w un32 ⟨vb, voff, none⟩ 1 vc vs (by omega) (fun j u hj => by rw [Addr.add_lit]; exact hvs j u hj) h1v
  have hold : (Builtin.firstCells i0.size n (.slice base n n)).run Try.prog w.drew = .ok cs.toArray w.drew := by
    rw [hzs]
    cases base with
    | none =>
      have h0 := hnil rfl
      subst h0
      rw [List.length_eq_zero_iff.1 hcl]
      exact run_firstCells_none w.drew 7 0 0 0
    | some a => exact run_firstCells_some w.drew 7 n a n n cs (by omega) (fun j v hj => hcs a rfl j v hj)
  have hrun : ∀ ty, (Builtin.append_ #[32, 32] ty #[.slice base n n, .slice (some ⟨vb, voff, none⟩) 1 vc]).run Try.prog w = _ := fun ty =>
    run_append_grow_src w 32 32 ty 31 i0 _ un32 hi0 hz0 base n n cs hold _ 1 vs hsrc (by omega) (by omega) (by rw [hzb]; exact growslice_fits (by omega) (by omega))
  clear hold hsrc
  have hb3 : (n : Int) ≤ 1000 := by omega
  generalize zSt.cells = Z at hrun ⊢
  go_enter Try.func17, Try.ntmps17
  cases base with
  | none =>
    have h0 := hnil rfl
    subst h0
    go_wp2_with (at_builtin; refine Lib.wpList_append_run _ rfl _ _ _ _ rfl _ _ rfl rfl _ _ (hrun _) ?_)
    go_ret
    exact ⟨rfl, rfl⟩
  | some a =>
    obtain ⟨ab, ao, asp⟩ := a
    go_wp2_with (at_builtin; refine Lib.wpList_append_run _ rfl _ _ _ _ rfl _ _ rfl rfl _ _ (hrun _) ?_)
    all_goals (go_ret; exact ⟨rfl, rfl⟩)

set_option maxHeartbeats 4000000 in
set_option maxRecDepth 100000 in
theorem ins_mid (b off n i vb voff vc : Nat) (cs vs : List Value) (w : World) (hn8 : n ≤ 1000) (hi : i < n) (hcl : cs.length = n * 7) (hvl : vs.length = 7)
    (hcs : ∀ j v, cs[j]? = some v → w.cell? ⟨b, off + j, none⟩ = some v) (hvs : ∀ j v, vs[j]? = some v → w.cell? ⟨vb, voff + j, none⟩ = some v) (h1c : ∀ v ∈ cs, v.oneCell' = true) (h1v : ∀ v ∈ vs, v.oneCell' = true) :
    Calls Try.prog 17 #[.slice (some ⟨b, off, none⟩) n n, .int .i64 i, .slice (some ⟨vb, voff, none⟩) 1 vc] w fun e w' =>
      e = .returned (.slice (some ⟨w.heap.size, 0, none⟩) (n + 1) (grownCap w (n + 1) n 31)) ∧
      Below w.heap.size w w' ∧ ∃ R, w'.heap[w.heap.size]? = some (.cells R 31 (0, 0)) ∧ R.toList.take ((n + 1) * 7) = cs.take (i * 7) ++ vs ++ cs.drop (i * 7) := by
  obtain ⟨i0, hi0, hz0, hzs, hzb⟩ := in31
  have hbw : b < w.heap.size := block_lt_of_cell (hcs 0 _ (List.getElem?_eq_getElem (by omega)))
  have hvw : vb < w.heap.size := block_lt_of_cell (hvs 0 _ (List.getElem?_eq_getElem (by omega)))
  have hkk : (n : Int) + 1 - (i : Int) = ((n + 1 - i : Nat) : Int) := by omega
  have hik : i + (n + 1 - i) = n + 1 := by omega
  have htl : (cs.take (i * 7)).length = i * 7 := by rw [List.length_take]; omega
  have hold : (Builtin.firstCells i0.size i (.slice (some ⟨b, off, none⟩) i n)).run Try.prog w.drew = .ok (cs.take (i * 7)).toArray w.drew := by
    rw [hzs]
    exact run_firstCells_some w.drew 7 i ⟨b, off, none⟩ i n (cs.take (i * 7)) htl (fun j v hj => by
      rw [Addr.add_lit]
      rw [List.getElem?_take] at hj
      split at hj
      · exact hcs j v hj
      · cases hj)
  obtain ⟨G, hG⟩ : ∃ G, G = grownCap w (n + 1) n 31 := ⟨_, rfl⟩
  obtain ⟨ROW, hROW⟩ : ∃ ROW : Array Value, ROW = (cs.take (i * 7)).toArray ++ Builtin.zeroCells zSt.cells (n + 1 - i) ++ Builtin.zeroCells zSt.cells (G - (n + 1)) := ⟨_, rfl⟩
  have hrz : ∀ ty, (Builtin.append_ #[32, 3] ty #[.slice (some ⟨b, off, none⟩) i n, .int .i64 ((n : Int) + 1 - (i : Int))]).run Try.prog w =
      .ok (.slice (some ⟨w.heap.size, 0, none⟩) (n + 1) G) (w.drew.alloc (.cells ROW 31)) := fun ty => by
    have h := Lib.run_append_grow_zeros w 32 3 ty 31 i0 _ .i64 .i64 un32 un3 hi0 hz0 (some ⟨b, off, none⟩) i n (cs.take (i * 7)) hold (n + 1 - i) (by omega) (by omega) (by omega) (by omega) (by rw [hzb]; omega) (by rw [hzb, hik]; exact growslice_fits (by omega) (by omega))
    rw [hik, ← hG] at h
    rw [hkk, h, hROW]
  have hGn : n + 1 ≤ G := by rw [hG]; exact grownCap_ge w _ _ _
  have hG63 : G ≤ 9223372036854775807 := by
    have := grownCap_le_maxLen w (n + 1) n 31 (by unfold maxLen; omega)
    rw [← hG] at this
    unfold maxLen at this
    omega
  have hRl : (n + 1) * 7 ≤ ROW.size := by
    rw [hROW]
    simp only [Array.size_append, zc_size, List.size_toArray, htl]
    omega
  have hRt : ROW.toList.take (i * 7) = cs.take (i * 7) := by
    rw [hROW]
    simp only [Array.toList_append, List.append_assoc]
    rw [List.take_append_of_le_length (by rw [htl]; exact Nat.le_refl _), List.take_of_length_le (by rw [htl]; exact Nat.le_refl _)]
  obtain ⟨W1, hW1⟩ : ∃ W1, W1 = w.drew.alloc (.cells ROW 31) := ⟨_, rfl⟩
  have hWh : W1.heap = w.heap.push (.cells ROW 31 (0, 0)) := by rw [hW1]; rfl
  have h1h : W1.heap[w.heap.size]? = some (.cells ROW 31 (0, 0)) := by rw [hWh]; exact Array.getElem?_push_size
  have hOb : ∀ k, k < w.heap.size → W1.heap[k]? = w.heap[k]? := fun k hk => by
    rw [hWh]; exact Array.getElem?_push_lt hk |>.trans (Array.getElem?_eq_getElem hk).symm
  obtain ⟨R2, hR2⟩ : ∃ R2 : Array Value, R2 = (ROW.toList.take (i * 7) ++ vs ++ ROW.toList.drop (i * 7 + vs.length)).toArray := ⟨_, rfl⟩
  have hR2s : R2.size = ROW.size := by
    rw [hR2]; simp only [List.size_toArray, List.length_append, List.length_take, List.length_drop, Array.length_toList, hvl]; omega
  obtain ⟨R3, hR3⟩ : ∃ R3 : Array Value, R3 = (R2.toList.take ((i + 1) * 7) ++ cs.drop (i * 7) ++ R2.toList.drop ((i + 1) * 7 + (cs.drop (i * 7)).length)).toArray := ⟨_, rfl⟩
  have hdl : (cs.drop (i * 7)).length = (n - i) * 7 := by rw [List.length_drop, hcl]; omega
  have hmA : Nat.min 1 (n + 1 - i) = 1 := Nat.min_eq_left (by omega)
  have hmB : Nat.min (n - i) (n + 1 - (i + 1)) = n - i := by rw [show n + 1 - (i + 1) = n - i by omega]; exact Nat.min_self _
  have hcpA : ∀ (W : World), W.heap = W1.heap → ∀ ty dc, (Builtin.copy_ #[32, 32] ty #[.slice (some ⟨w.heap.size, i * 7, none⟩) (n + 1 - i) dc, .slice (some ⟨vb, voff, none⟩) 1 vc]).run Try.prog W = .ok (.int .i64 1) (W.setRow w.heap.size R2) := fun W hW ty dc => by
    have := copy_at (P := Try.prog) (w := W) (t2 := 32) (ty := ty) un32 hi0 (g := w.heap.size) (o := i * 7) (dl := n + 1 - i) (dc := dc) (sl := 1) (sc := vc) (ad := ⟨vb, voff, none⟩) (cs := vs) (by rw [hW]; exact h1h) (by rw [hmA, hzs, hvl])
      (fun j v hj => by
        rw [Addr.add_lit, World.cell?_of_block (w := w) (by show W.heap[vb]? = _; rw [hW]; exact hOb vb hvw)]; exact hvs j v hj) (by omega) h1v
    rw [hmA] at this
    rw [this, hR2]; rfl
  have hcpB : ∀ (W : World), W.heap = (W1.setRow w.heap.size R2).heap → ∀ ty dc sc, (Builtin.copy_ #[32, 32] ty #[.slice (some ⟨w.heap.size, (i + 1) * 7, none⟩) (n + 1 - (i + 1)) dc, .slice (some ⟨b, off + i * 7, none⟩) (n - i) sc]).run Try.prog W = .ok (.int .i64 (n - i : Nat)) (W.setRow w.heap.size R3) := fun W hW ty dc sc => by
    have := copy_at (P := Try.prog) (w := W) (t2 := 32) (ty := ty) un32 hi0 (g := w.heap.size) (o := (i + 1) * 7) (dl := n + 1 - (i + 1)) (dc := dc) (sl := n - i) (sc := sc) (ad := ⟨b, off + i * 7, none⟩) (cs := cs.drop (i * 7)) (cur := R2) (e' := 31) (by rw [hW]; exact setRow_heap W1 _ ROW R2 31 _ h1h) (by rw [hmB, hzs, hdl])
      (fun j v hj => by
        rw [Addr.add_lit, World.cell?_of_block (w := w) (by show W.heap[b]? = _; rw [hW, setRow_other _ _ _ _ (by omega)]; exact hOb b hbw), Nat.add_assoc]
        exact hcs _ v (by rwa [List.getElem?_drop] at hj)) (by rw [hdl, hR2s]; omega) (fun v hv => h1c v (List.mem_of_mem_drop hv))
    rw [hmB] at this
    rw [this, hR3]
  have HF := hidQ (show ∀ W' : World, W'.heap = ((W1.setRow w.heap.size R2).setRow w.heap.size R3).heap → W'.os = w.os → W'.tape = w.tape → W'.output = w.output →
      Below w.heap.size w W' ∧ ∃ R, W'.heap[w.heap.size]? = some (.cells R 31 (0, 0)) ∧ R.toList.take ((n + 1) * 7) = cs.take (i * 7) ++ vs ++ cs.drop (i * 7) from fun W' hW h1 h2 h3 => by
    refine ⟨⟨h1, h2, h3, ?_, fun k hk => ?_⟩, R3, ?_, ?_⟩
    · rw [hW]; simp only [World.setRow, Array.size_modify]; rw [hWh]; simp
    · rw [hW, setRow_other _ _ _ _ (by omega), setRow_other _ _ _ _ (by omega)]; exact hOb k hk
    · rw [hW]; exact setRow_heap _ _ R2 R3 31 _ (setRow_heap W1 _ ROW R2 31 _ h1h)
    · have e2 : R2.toList.take ((i + 1) * 7) = cs.take (i * 7) ++ vs := by
        rw [hR2]
        simp only [List.append_assoc, hRt]
        rw [← List.append_assoc, List.take_append_of_le_length (by rw [List.length_append, htl, hvl]; omega), List.take_of_length_le (by rw [List.length_append, htl, hvl]; omega)]
      rw [hR3, e2]
      show List.take _ (_ ++ _ ++ _) = _
      rw [List.take_append_of_le_length (by simp only [List.length_append, htl, hvl, hdl]; omega), List.take_of_length_le (by simp only [List.length_append, htl, hvl, hdl]; omega)])
  have hw1 : IntKind.i64.wrap ((i : Int) + 1) = (i : Int) + 1 := by rw [IntKind.wrap_i64]; omega
  have hw2 : IntKind.i64.wrap ((n : Int) + 1) = (n : Int) + 1 := by rw [IntKind.wrap_i64]; omega
  have hw3 : IntKind.i64.wrap ((n : Int) + 1 - i) = (n : Int) + 1 - i := by rw [IntKind.wrap_i64]; omega
  have hz2 : ¬ ((i : Int) = (n : Int)) := by omega
  have hz3 : (n : Int) < (n : Int) + 1 := by omega
  have hin : i ≤ n := by omega
  have htn : ((i : Int) + 1).toNat = i + 1 := by omega
  have hb1 : (0 : Int) ≤ (i : Int) + 1 := by omega
  have hb3 : (i : Int) ≤ (n : Int) := by omega
  have hGi : ¬ (G = i) := by omega
  have hGim : ¬ (G = i + 1) := by omega
  have hci : ¬ (n = i) := by omega
  clear hkk hik hold hROW hRl hRt h1h hOb hR2 hR2s hR3 hdl hmA hmB hcl hvl hcs hvs h1c h1v htl hi0 hz0 hzs hzb hWh
  subst hW1
  rw [← hG]
  clear hG
  have hE : ((w.alloc (.cells ROW 31)).drew).heap = (w.drew.alloc (.cells ROW 31)).heap := rfl
  have hF : (((w.alloc (.cells ROW 31)).drew.setRow w.heap.size R2).drew).heap = ((w.drew.alloc (.cells ROW 31)).setRow w.heap.size R2).heap := rfl
  have mixed := mixedT
  go_enter Try.func17, Try.ntmps17
  go_wp2_with (first
    | (at_builtin; refine Lib.wpList_append_run _ rfl _ _ _ _ rfl _ _ rfl rfl _ _ (hrz _) ?_)
    | (at_builtin; refine wpList_copy_runI _ rfl _ _ 32 32 rfl _ _ rfl rfl (hcpA _ hE _ _) ?_))
  go_region_law_o (refine step_copy_runI rfl _ _ 32 32 rfl (.slice (some ⟨w.heap.size, (i + 1) * 7, none⟩) (n + 1 - (i + 1)) (G - (i + 1))) (.slice (some ⟨b, off + i * 7, none⟩) (n - i) (n - i)) (by simp [Act.eval, Act.put]) (by simp [Act.eval, Act.put]) (hcpB _ hF 3 (G - (i + 1)) (n - i)) ?_)
  go_wp2
  go_ret
  exact ⟨rfl, HF.out _ rfl rfl rfl rfl⟩

theorem ins_get {α : Type} (A V : List α) (p q : Nat) (hp : p ≤ A.length) : (A.take p ++ V ++ A.drop p)[q]? = if q < p then A[q]? else if q < p + V.length then V[q - p]? else A[q - V.length]? := by
  rw [List.append_assoc, List.getElem?_append, List.getElem?_append, List.length_take, Nat.min_eq_left hp, List.getElem?_drop, List.getElem?_take]
  by_cases h1 : q < p
  · simp only [if_pos h1]
  · simp only [if_neg h1]
    by_cases h2 : q < p + V.length
    · rw [if_pos (by omega), if_pos h2]
    · rw [if_neg (by omega), if_neg h2]
      congr 1
      omega
/-- The cells of a slice. -/
theorem sl_cells {I : Nat → Prop} {w : World} {x : Value} {L : List SV} (h : Conc I w x (.sl stK L)) : ∃ ad cap, x = .slice ad L.length cap ∧ (ad = none → L.length = 0) ∧ (∀ e, e ∈ L → shOk stK e) ∧ ∃ cs : List Value, cs.length = L.length * 7 ∧ (∀ a, ad = some a → ∀ j v, cs[j]? = some v → w.cell? (a.add j) = some v) ∧
    (∀ v, v ∈ cs → v.oneCell' = true) ∧ (∀ i j, i < L.length → j < 7 → Conc I w (cs.getD (i * 7 + j) undef) (elCell L i j)) ∧ (0 < L.length → ∃ b off, ad = some ⟨b, off, none⟩ ∧ I b) := by
  cases h with
  | sl0 a cap =>
    exact ⟨a, cap, rfl, fun _ => rfl, (by intro e he; cases he), [], rfl, (by intro a _ j v hj; cases hj), (by intro v hv; cases hv), (by intro i j hi _; exact absurd hi (Nat.not_lt_zero _)), fun h => absurd h (Nat.lt_irrefl _)⟩
  | sl b off cap _ _ f hb hcap hsh hf hfc =>
    refine ⟨some ⟨b, off, none⟩, cap, rfl, (by intro h; cases h), hsh, cellList 7 L.length f, cellList_length, fun a ha j v hj => ?_, fun v hv => ?_, fun i j hi hj => ?_, fun _ => ⟨b, off, rfl, hb⟩⟩
    · cases ha
      obtain ⟨d1, d2, d3, d4⟩ := cellList_get hj
      rw [addr_add, d3]
      have := hf _ _ d1 d2
      rw [Nat.add_assoc] at this
      rw [← this, show stK.length = 7 from rfl, ← d4]
    · obtain ⟨j, hj⟩ := List.getElem?_of_mem hv
      obtain ⟨d1, d2, d3, d4⟩ := cellList_get hj
      rw [d3]
      have hs := hsh (L.getD (j / 7) .any) (by rw [List.getD_eq_getElem?_getD, List.getElem?_eq_getElem d1]; exact List.getElem_mem _)
      refine kOk_one (k := stK.getD (j % 7) .other) ?_ (hs.2 _ d2) (hfc _ _ d1 d2)
      generalize j % 7 = q at d2
      match q, d2 with
      | 0, _ | 1, _ | 2, _ | 3, _ | 4, _ | 5, _ | 6, _ => intro hh; cases hh
    · rw [cellList_getD hi hj]; exact hfc i j hi hj
theorem ins_conc {I : Nat → Prop} {w w' : World} {L m : List SV} {cs vs : List Value} {i : Nat} {R : Array Value} {G : Nat} (hi : i ≤ L.length) (hm : m.length = 1) (hcl : cs.length = L.length * 7) (hvl : vs.length = 7)
    (hIb : ∀ b, I b → b < w.heap.size) (hw : Below w.heap.size w w') (hG : L.length + 1 ≤ G) (hRh : w'.heap[w.heap.size]? = some (.cells R 31 (0, 0))) (hR : R.toList.take ((L.length + 1) * 7) = cs.take (i * 7) ++ vs ++ cs.drop (i * 7))
    (s1 : ∀ e, e ∈ L → shOk stK e) (s2 : ∀ e, e ∈ m → shOk stK e)
    (c1 : ∀ i j, i < L.length → j < 7 → Conc I w (cs.getD (i * 7 + j) undef) (elCell L i j)) (c2 : ∀ j, j < 7 → Conc I w (vs.getD j undef) (elCell m 0 j)) :
    Conc (fun b => I b ∨ b = w.heap.size) w' (.slice (some ⟨w.heap.size, 0, none⟩) (L.length + 1) G) (.sl stK (L.take i ++ m ++ L.drop i)) := by
  have hl : (L.take i ++ m ++ L.drop i).length = L.length + 1 := by simp only [List.length_append, List.length_take, List.length_drop, hm]; omega
  have hmono : ∀ {x v}, Conc I w x v → Conc (fun b => I b ∨ b = w.heap.size) w' x v := fun h => h.mono (fun b hb => .inl hb) (fun b hb => hw.block b (hIb b hb))
  have hel : ∀ q j, elCell (L.take i ++ m ++ L.drop i) q j = if q < i then elCell L q j else if q = i then elCell m 0 j else elCell L (q - 1) j := fun q j => by
    have g : (L.take i ++ m ++ L.drop i).getD q .any = if q < i then L.getD q .any else if q = i then m.getD 0 .any else L.getD (q - 1) .any := by
      rw [List.getD_eq_getElem?_getD, ins_get L m i q hi, hm]
      by_cases h1 : q < i
      · rw [if_pos h1, if_pos h1, List.getD_eq_getElem?_getD]
      · rw [if_neg h1, if_neg h1]
        by_cases h2 : q = i
        · rw [if_pos (by omega), if_pos h2, List.getD_eq_getElem?_getD, show q - i = 0 by omega]
        · rw [if_neg (by omega), if_neg h2, List.getD_eq_getElem?_getD]
    unfold elCell
    rw [g]
    by_cases h1 : q < i
    · rw [if_pos h1, if_pos h1]
    · rw [if_neg h1, if_neg h1]
      by_cases h2 : q = i
      · rw [if_pos h2, if_pos h2]
      · rw [if_neg h2, if_neg h2]
  have hRq : ∀ q, q < (L.length + 1) * 7 → R.toList[q]? = if q < i * 7 then cs[q]? else if q < i * 7 + 7 then vs[q - i * 7]? else cs[q - 7]? := fun q hq => by
    have := ins_get cs vs (i * 7) q (by omega)
    rw [← hR, hvl, List.getElem?_take, if_pos hq] at this
    exact this
  rw [← hl]
  rw [← hl] at hG
  refine .sl _ 0 G stK _ (fun q j => R.toList.getD (q * 7 + j) undef) (.inr rfl) hG (fun e he => ?_) (fun q j hq hj => ?_) (fun q j hq hj => ?_)
  · rcases List.mem_append.1 he with he | he
    · rcases List.mem_append.1 he with he | he
      · exact s1 e (List.mem_of_mem_take he)
      · exact s2 e he
    · exact s1 e (List.mem_of_mem_drop he)
  · rw [hl] at hq
    have hj : j < 7 := hj
    show w'.cell? ⟨w.heap.size, 0 + q * 7 + j, none⟩ = some (R.toList.getD (q * 7 + j) undef)
    have hlt : q * 7 + j < (L.length + 1) * 7 := by omega
    have hsz : q * 7 + j < R.toList.length := by
      have := congrArg List.length hR
      simp only [List.length_append, List.length_take, List.length_drop, hcl, hvl] at this
      omega
    have e1 : w'.cell? ⟨w.heap.size, 0 + q * 7 + j, none⟩ = R[0 + q * 7 + j]? := by simp [World.cell?, hRh]
    rw [e1, Nat.zero_add, List.getD_eq_getElem?_getD, List.getElem?_eq_getElem hsz]
    simp at hsz
    simp [Array.getElem?_eq_getElem hsz]
  · rw [hl] at hq
    have hj : j < 7 := hj
    show Conc _ w' (R.toList.getD (q * 7 + j) undef) _
    rw [hel, List.getD_eq_getElem?_getD, hRq _ (by omega)]
    by_cases h1 : q < i
    · rw [if_pos h1, if_pos (by omega), ← List.getD_eq_getElem?_getD]
      exact hmono (c1 q j (by omega) hj)
    · rw [if_neg h1]
      by_cases h2 : q = i
      · subst h2
        rw [if_pos rfl, if_neg (by omega), if_pos (by omega), ← List.getD_eq_getElem?_getD, show q * 7 + j - q * 7 = j by omega]
        exact hmono (c2 j hj)
      · rw [if_neg h2, if_neg (by omega), if_neg (by omega), ← List.getD_eq_getElem?_getD, show q * 7 + j - 7 = (q - 1) * 7 + j by omega]
        exact hmono (c1 (q - 1) j (by omega) hj)
theorem ins_known : Known Try.prog 17 insC := by
  refine ⟨fnB_ok (by kernel_rfl), fun vs hc hp => ?_⟩
  simp only [insC] at hp ⊢
  split at hp
  · rename_i ks L i ks' m
    obtain ⟨rfl, rfl, hm, hi0, hi1, h8⟩ := hp
    refine ⟨rfl, fun I w vs hl hI hs hx => ?_⟩
    have e0 := (hx 0).conc rfl
    have e1 := (hx 1).conc rfl
    have e2 := (hx 2).conc rfl
    obtain ⟨vl⟩ := vs
    obtain ⟨x, y, z, rfl⟩ : ∃ x y z, vl = [x, y, z] := by
      match vl, hs with
      | [x, y, z], _ => exact ⟨x, y, z, rfl⟩
    have e0 : Conc I w x (.fsl stK L) := e0
    have e1 : Conc I w y (.int .i64 i) := e1
    have e2 : Conc I w z (.sl stK m) := e2
    obtain ⟨k, rfl⟩ : ∃ k : Nat, i = k := ⟨i.toNat, by omega⟩
    have hk : k ≤ L.length := by omega
    cases e1
    rw [Int.toNat_natCast]
    cases e0 with
    | fsl ad _ _ e0 =>
      obtain ⟨ad', cap', hx0, hnil, s1, cs, hcl, hcs, h1c, c1, hbb⟩ := sl_cells e0
      cases hx0
      obtain ⟨ad2, cap2, rfl, hnil2, s2, ws, hwl, hws, h1w, c2, hbb2⟩ := sl_cells e2
      rw [hm] at hwl hnil2 hbb2 c2
      obtain ⟨vb, voff, rfl, hvI⟩ := hbb2 (by omega)
      have hws' := hws _ rfl
      rw [hm]
      have c2' : ∀ j, j < 7 → Conc I w (ws.getD j undef) (elCell m 0 j) := fun j hj => by have := c2 0 j (by omega) hj; rwa [Nat.zero_mul, Nat.zero_add] at this
      have hIn : ∀ b, (I b ∨ b = w.heap.size) → b < w.heap.size + 1 ∧ (I b ∨ w.heap.size ≤ b) := fun b hb => by
        rcases hb with hb | hb
        · exact ⟨Nat.lt_succ_of_lt (hI b hb), .inl hb⟩
        · exact ⟨by omega, .inr (by omega)⟩
      have fin : ∀ w' R G, Below w.heap.size w w' → L.length + 1 ≤ G → w'.heap[w.heap.size]? = some (.cells R 31 (0, 0)) → R.toList.take ((L.length + 1) * 7) = cs.take (k * 7) ++ ws ++ cs.drop (k * 7) →
          ∃ (x : Value) (I' : Nat → Prop), Ending.returned (.slice (some ⟨w.heap.size, 0, none⟩) (L.length + 1) G) = .returned x ∧ Fr w.heap.size (fun _ => False) w w' ∧ (∀ b, I b → I' b) ∧ (∀ b, I' b → b < w'.heap.size ∧ (I b ∨ w.heap.size ≤ b)) ∧ ResOK I' w.heap.size w' x (.sl stK (L.take k ++ m ++ L.drop k)) := fun w' R G hw hG hRh hR => by
        have hsz : w.heap.size < w'.heap.size := by
          rcases Nat.lt_or_ge w.heap.size w'.heap.size with h | h
          · exact h
          · rw [Array.getElem?_eq_none h] at hRh; cases hRh
        refine ⟨_, fun b => I b ∨ b = w.heap.size, rfl, ⟨hw.os, hw.tape, hw.output, hw.size, fun k hk _ => hw.block k hk⟩, fun _ h => .inl h, fun b hb => ⟨by have := (hIn b hb).1; omega, (hIn b hb).2⟩, .inl ?_⟩
        exact ins_conc hk hm hcl hwl hI hw hG hRh hR s1 s2 c1 c2'
      rcases Nat.lt_or_ge k L.length with hlt | hge
      · obtain ⟨b, off, rfl, hIb⟩ := hbb (by omega)
        refine (ins_mid b off L.length k vb voff cap2 cs ws w h8 hlt hcl hwl (fun j v hj => by have := hcs _ rfl j v hj; rwa [addr_add] at this) (fun j v hj => by have := hws' j v hj; rwa [addr_add] at this) h1c h1w).mono ?_
        rintro e w' ⟨rfl, hw, R, hRh, hR⟩
        exact fin w' R _ hw (grownCap_ge w _ _ _) hRh hR
      · have : k = L.length := by omega
        subst this
        refine (ins_end ad L.length vb voff cap2 cs ws w h8 hcl hwl hnil hcs (fun j v hj => by have := hws' j v hj; rwa [addr_add] at this) h1w).mono ?_
        rintro e w' ⟨rfl, rfl⟩
        refine fin _ ((cs ++ ws).toArray ++ Builtin.zeroCells zSt.cells (grownCap w (L.length + 1) L.length 31 - (L.length + 1))) _ ⟨rfl, rfl, rfl, (by show w.heap.size ≤ (w.heap.push _).size; rw [Array.size_push]; omega), fun k hk => (Array.getElem?_push_lt hk).trans (Array.getElem?_eq_getElem hk).symm⟩ (grownCap_ge w _ _ _) ?_ ?_
        · exact Array.getElem?_push_size
        · simp only [Array.toList_append]
          rw [List.take_append_of_le_length (by simp only [List.length_append, hcl, hwl]; omega), List.take_of_length_le (by simp only [List.length_append, hcl, hwl]; omega), List.take_of_length_le (by omega), List.drop_of_length_le (by omega), List.append_nil]
  · exact hp.elim
end Go.Rx

