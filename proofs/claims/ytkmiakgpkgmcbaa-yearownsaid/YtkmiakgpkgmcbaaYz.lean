/- A year: its payslips are anew, gone through by hand. -/
import Derived.Test.YtkmiakgpkgmcbaaYx
import Derived.Tactics
import Derived.Tactics2
import Derived.WalkKit
import Derived.KernelRfl
import Derived.Lib.AppendZeros
namespace Go.Rx
open Go.Proofs Go.RowKit
set_option linter.unusedSimpArgs false
set_option linter.unusedVariables false
def tr_ycop_i : Tr := trOf 12 tyT [(22, clSOC), (23, clTOC)] false [] false (fun _ _ _ => noAnn) [] Try.f34
theorem ycop_i_in : InK Try.prog 34 tr_ycop_i := inK1 (by kernel_rfl) mixedT tyT_ok (.cons clSO_known (.cons clTO_known .nil)) .nil Try.func34 (by kernel_rfl)
set_option maxRecDepth 100000 in
theorem vc_ycop (p c t s x h : Int) (S : List SV) (n : Int) (T : List SV) (y : Int) (K : SV → List (Nat × Chunk) → Prop) : (tr_ycop_i 0 (em_copiedF (p, c, t, s, x, h, S, n, T, y)) [] K) = ((Ob ((S.length ≤ (1000000000 : Nat))) ∧ (Ob ((T.length ≤ (1000000000 : Nat))) ∧ (K (SV.agg [SV.int IntKind.i64 p, SV.int IntKind.i64 c, SV.int IntKind.i64 t, SV.int IntKind.i64 s, SV.int IntKind.i64 x, SV.int IntKind.i64 h, SV.osl (5 : Nat) (0 : Nat), SV.int IntKind.i64 n, SV.osl (8 : Nat) (0 : Nat), SV.int IntKind.i64 y]) [((2 : Nat), Chunk.box (27 : Nat) [SV.int IntKind.i64 p, SV.int IntKind.i64 c, SV.int IntKind.i64 t, SV.int IntKind.i64 s, SV.int IntKind.i64 x, SV.int IntKind.i64 h, SV.osl (5 : Nat) (0 : Nat), SV.int IntKind.i64 n, SV.osl (8 : Nat) (0 : Nat), SV.int IntKind.i64 y]), ((1 : Nat), Chunk.box (27 : Nat) [SV.int IntKind.i64 p, SV.int IntKind.i64 c, SV.int IntKind.i64 t, SV.int IntKind.i64 s, SV.int IntKind.i64 x, SV.int IntKind.i64 h, SV.osl (5 : Nat) (0 : Nat), SV.int IntKind.i64 n, SV.osl (8 : Nat) (0 : Nat), SV.int IntKind.i64 y]), ((1 : Nat), Chunk.box (27 : Nat) [SV.int IntKind.i64 p, SV.int IntKind.i64 c, SV.int IntKind.i64 t, SV.int IntKind.i64 s, SV.int IntKind.i64 x, SV.int IntKind.i64 h, SV.osl (5 : Nat) (0 : Nat), SV.int IntKind.i64 n, SV.sl [CK.int IntKind.i64, CK.int IntKind.i64, CK.int IntKind.i64, CK.int IntKind.i64, CK.int IntKind.i64, CK.int IntKind.i64] T, SV.int IntKind.i64 y]), ((8 : Nat), Chunk.row (0 : Nat) (59 : Nat) tkK T), ((5 : Nat), Chunk.row (0 : Nat) (54 : Nat) shK S), ((2 : Nat), Chunk.box (27 : Nat) [SV.int IntKind.i64 (0 : Int), SV.int IntKind.i64 (0 : Int), SV.int IntKind.i64 (0 : Int), SV.int IntKind.i64 (0 : Int), SV.int IntKind.i64 (0 : Int), SV.int IntKind.i64 (0 : Int), SV.nilsl, SV.int IntKind.i64 (0 : Int), SV.nilsl, SV.int IntKind.i64 (0 : Int)]), ((1 : Nat), Chunk.box (27 : Nat) [SV.int IntKind.i64 p, SV.int IntKind.i64 c, SV.int IntKind.i64 t, SV.int IntKind.i64 s, SV.int IntKind.i64 x, SV.int IntKind.i64 h, SV.sl [CK.int IntKind.i64, CK.int IntKind.i64] S, SV.int IntKind.i64 n, SV.sl [CK.int IntKind.i64, CK.int IntKind.i64, CK.int IntKind.i64, CK.int IntKind.i64, CK.int IntKind.i64, CK.int IntKind.i64] T, SV.int IntKind.i64 y])])))) := by kernel_rfl
theorem hidQ {p : Prop} (h : p) : Hid p := h
theorem wpList_load_at {P : Program} {ops : Array Oper} {rest : List Oper} {o : Oper} {a : Act} {w : World} {Q : Exit → Act → World → Prop} (hgd : o.guard = none) (ty : TypeId) (x : Operand) (ho : o.op = .load ty x)
    (ad : Addr) (hx : a.eval x = .pointer (some ad)) (v : Value) (hr : (loadVar ty ad).run P w = .ok v w)
    (h : wpList P ops Q rest (a.put o.dst v) w) : wpList P ops Q (o :: rest) a w :=
  wpList_plain hgd fun _ hK => by
    unfold Oper.wp execOp
    simp only [ho, hx, Instr.loadAt, Instr.sureAddr, Sem.run_bind, Sem.run_pure, Result.andThen_ok, hr]
    exact hK _ _ h
theorem load27 (w : World) (b off : Nat) (f : Nat → Value) (hc : ∀ j, j < 10 → w.cell? ⟨b, off + j, none⟩ = some (f j)) :
    (loadVar 27 ⟨b, off, none⟩).run Try.prog w = .ok (.agg #[f 0, f 1, f 2, f 3, f 4, f 5, f 6, f 7, f 8, f 9]) w :=
  run_loadVar' (tyT_ok 27 _ rfl) b off f hc
/-- A payslip as a value. -/
def slipV (p c t s x h : Int) (S : Value) (n : Int) (T : Value) (y : Int) : Value := .agg #[.int .i64 p, .int .i64 c, .int .i64 t, .int .i64 s, .int .i64 x, .int .i64 h, S, .int .i64 n, T, .int .i64 y]
theorem Conc.inv_int {I : Nat → Prop} {w : World} {x : Value} {k : IntKind} {n : Int} (h : Conc I w x (.int k n)) : x = .int k n := by cases h; rfl
theorem Conc.inv_slc {I : Nat → Prop} {w : World} {x : Value} {ks : List CK} {l : List SV} (h : Conc I w x (.sl ks l)) : ∃ a cap, x = .slice a l.length cap := by
  cases h with
  | sl0 a cap => exact ⟨a, cap, rfl⟩
  | sl b off cap => exact ⟨_, cap, rfl⟩
/-- A row of shares that lies anew. -/
def YS (n : Nat) (w : World) (v : Value) : Prop := ∃ ad m c, v = .slice ad m c ∧ (m = 0 ∨ ∃ g cur, ad = some ⟨g, 0, none⟩ ∧ n ≤ g ∧ w.heap[g]? = some (.cells cur 54 (0, 0)) ∧ m * 2 ≤ cur.size ∧ m ≤ 1000000000)
theorem YS.mono {n n' : Nat} {w w' : World} {v : Value} (h : YS n w v) (hn : n' ≤ n) (hw : ∀ g cur, n ≤ g → w.heap[g]? = some (.cells cur 54 (0, 0)) → w'.heap[g]? = w.heap[g]?) : YS n' w' v := by
  obtain ⟨ad, m, c, e, h⟩ := h
  refine ⟨ad, m, c, e, h.imp (fun h => h) fun ⟨g, cur, h1, h2, h3, h4⟩ => ⟨g, cur, h1, Nat.le_trans hn h2, (hw g cur h2 h3).trans h3, h4⟩⟩
def isSl (v : Value) : Prop := ∃ ad m c, v = .slice ad m c
theorem copied_calls {I : Nat → Prop} {w : World} {p c t s x h n y : Int} {S T : List SV} {a6 a8 : Option Addr} {l6 c6 l8 c8 : Nat} (hld : Laid.ok Try.prog w) (hI : ∀ b, I b → b < w.heap.size)
    (h6 : Conc I w (.slice a6 l6 c6) (.sl shK S)) (h8 : Conc I w (.slice a8 l8 c8) (.sl tkK T)) (hS : S.length ≤ 1000000000 ∧ T.length ≤ 1000000000) :
    Calls Try.prog 34 #[slipV p c t s x h (.slice a6 l6 c6) n (.slice a8 l8 c8) y] w fun e w' => ∃ S6 S8, e = .returned (slipV p c t s x h S6 n S8 y) ∧ Fr w.heap.size (fun _ => False) w w' ∧ YS w.heap.size w' S6 ∧ isSl S8 := by
  have hrel : Rel Try.prog 0 w.heap.size (fun _ => False) I (fun _ => undef) w ⟨fun _ => none, fun _ => undef, I, fun _ => undef⟩ ⟨[], []⟩ ⟨#[], []⟩ w :=
    ⟨rfl, rfl, Fr.refl _ _ _, Nat.le_refl _, fun b h => h, fun b hb => ⟨hI b hb, .inl hb⟩, (fun c b h => by cases h), (fun c c' b h => by cases h), fun t => .conc _ _ (.any _), fun c => trivial, fun w' hf => Laid.mono hf.size (fun k hk => hf.block k hk (fun h => h)) hld, rfl⟩
  have hK : tr_ycop_i 0 (em_copiedF (p, c, t, s, x, h, S, n, T, y)) [] (fun r m' => r = .agg [.int .i64 p, .int .i64 c, .int .i64 t, .int .i64 s, .int .i64 x, .int .i64 h, .osl 5 0, .int .i64 n, .osl 8 0, .int .i64 y] ∧ lkO m' 5 = some (.row 0 54 shK S) ∧ lkO m' 8 = some (.row 0 59 tkK T)) := by
    rw [vc_ycop]
    exact ⟨⟨hS.1⟩, ⟨hS.2⟩, rfl, rfl, rfl⟩
  refine (ycop_i_in.ok 0 _ _ _ _ _ _ [] w _ #[slipV p c t s x h (.slice a6 l6 c6) n (.slice a8 l8 c8) y] _ hrel rfl (fun i => ?_) hK).mono ?_
  · match i with
    | 0 =>
      refine .conc _ _ (.agg _ _ rfl fun i => ?_)
      match i with
      | 0 => exact .int _ _
      | 1 => exact .int _ _
      | 2 => exact .int _ _
      | 3 => exact .int _ _
      | 4 => exact .int _ _
      | 5 => exact .int _ _
      | 6 => exact h6
      | 7 => exact .int _ _
      | 8 => exact h8
      | 9 => exact .int _ _
      | i + 10 => exact Conc.any _
    | i + 1 => exact .conc _ _ (Conc.any _)
  · rintro e w' ⟨v, r, m', E', rfl, hr, hv, rfl, hm5, hm8⟩
    obtain ⟨xs, hs, rfl, hx⟩ : ∃ xs : Array Value, xs.size = 10 ∧ v = .agg xs ∧ ∀ i, CV E' (lkO m') w' (xs.getD i undef) (([.int .i64 p, .int .i64 c, .int .i64 t, .int .i64 s, .int .i64 x, .int .i64 h, .osl 5 0, .int .i64 n, .osl 8 0, .int .i64 y] : List SV).getD i .any) := by
      cases hv with
      | conc _ _ h =>
        exfalso
        cases h with
        | agg xs _ hs hx =>
          have h := (show Conc E'.I w' (xs.getD 6 undef) (.osl 5 0) from hx 6)
          generalize xs.getD 6 undef = v at h
          cases h
      | agg xs _ hs hx => exact ⟨xs, hs, rfl, hx⟩
    obtain ⟨xs⟩ := xs
    match xs, hs with
    | [x0, x1, x2, x3, x4, x5, x6, x7, x8, x9], _ =>
      have ii : ∀ {v : Value} {n : Int}, CV E' (lkO m') w' v (.int .i64 n) → v = .int .i64 n := fun h => by cases h with | conc _ _ h => exact h.inv_int
      cases ii (show CV E' (lkO m') w' x0 (.int .i64 p) from hx 0)
      cases ii (show CV E' (lkO m') w' x1 (.int .i64 c) from hx 1)
      cases ii (show CV E' (lkO m') w' x2 (.int .i64 t) from hx 2)
      cases ii (show CV E' (lkO m') w' x3 (.int .i64 s) from hx 3)
      cases ii (show CV E' (lkO m') w' x4 (.int .i64 x) from hx 4)
      cases ii (show CV E' (lkO m') w' x5 (.int .i64 h) from hx 5)
      cases ii (show CV E' (lkO m') w' x7 (.int .i64 n) from hx 7)
      cases ii (show CV E' (lkO m') w' x9 (.int .i64 y) from hx 9)
      have e6 : x6 = E'.cv 5 := by
        cases (show CV E' (lkO m') w' x6 (.osl 5 0) from hx 6) with
        | conc _ _ h => cases h
        | osl _ _ _ v h1 h2 h3 => rw [hm5] at h1; cases h1; exact h3 rfl
      have e8 : x8 = E'.cv 8 := by
        cases (show CV E' (lkO m') w' x8 (.osl 8 0) from hx 8) with
        | conc _ _ h => cases h
        | osl _ _ _ v h1 h2 h3 => rw [hm8] at h1; cases h1; exact h3 rfl
      have c5 := hr.ch 5
      have c8 := hr.ch 8
      dsimp only at c5 c8
      rw [hm5] at c5
      rw [hm8] at c8
      refine ⟨x6, x8, rfl, hr.fr, ?_, ?_⟩
      · rw [e6]
        rcases c5.2 with ⟨hl, ys, hrow, _⟩ | ⟨rfl, _, ad, he⟩
        · rcases hrow.2 with ⟨he, h0⟩ | ⟨g, cap, cur, he, _, hg, hnc, _, hcs, _⟩
          · exact ⟨none, 0, 0, he, .inl rfl⟩
          · refine ⟨_, _, _, he, .inr ⟨g, cur, rfl, ?_, hg, ?_, hS.1⟩⟩
            · rw [he] at hl
              obtain ⟨_, _, k⟩ := hr.loc 5 g hl
              rcases k with k | k | ⟨_, k⟩
              · exact k
              · exact k.elim
              · dsimp only at k; rw [hm5] at k; cases k
            · rw [hcs]; exact Nat.mul_le_mul_right _ hnc
        · exact ⟨ad, 0, 0, he, .inl rfl⟩
      · rw [e8]
        rcases c8.2 with ⟨hl, ys, hrow, _⟩ | ⟨_, _, ad, he⟩
        · rcases hrow.2 with ⟨he, h0⟩ | ⟨g, cap, cur, he, _⟩
          · exact ⟨_, _, _, he⟩
          · exact ⟨_, _, _, he⟩
        · exact ⟨ad, 0, 0, he⟩
theorem un30 : Try.prog.underlying 30 = some (.slice 27) := by kernel_rfl
def zSlip : Value := slipV 0 0 0 0 0 0 (.slice none 0 0) 0 (.slice none 0 0) 0
theorem in27 : ∃ i, Try.prog.info? 27 = some i ∧ i.zero = some zSlip ∧ i.size = 10 ∧ i.bytes = 112 := by
  refine ⟨(Try.prog.info? 27).get (by kernel_rfl), ?_, ?_, ?_, ?_⟩
  · exact (Option.some_get _).symm
  all_goals kernel_rfl
/-- What there is while payslips are copied. -/
def INV (w : World) (k : Nat) (out : Value) (wr : World) : Prop :=
  Fr w.heap.size (fun _ => False) w wr ∧ ∃ xs : List Value, wr.ownsRow 0 27 10 out k xs ∧ (∀ b, out.ownBlock = some b → w.heap.size ≤ b) ∧
    ∀ i, i < k → ∃ p c t s x h S6 n S8 y, (∀ j, j < 10 → xs.getD (i * 10 + j) undef = (slipV p c t s x h S6 n S8 y).cells.toList.getD j undef) ∧ YS w.heap.size wr S6 ∧ isSl S8
theorem lt_of_some {w : World} {k : Nat} {o : Obj} (h : w.heap[k]? = some o) : k < w.heap.size := by
  rcases Nat.lt_or_ge k w.heap.size with h' | h'
  · exact h'
  · rw [Array.getElem?_eq_none h'] at h; cases h
theorem own_blk {w : World} {e size n b : Nat} {v : Value} {xs : List Value} (h : w.ownsRow 0 e size v n xs) (hb : v.ownBlock = some b) : ∃ cur, w.heap[b]? = some (.cells cur e (0, 0)) := by
  rcases h.2 with ⟨rfl, _⟩ | ⟨g, cap, cur, rfl, _, hg, _⟩
  · cases hb
  · cases hb; exact ⟨cur, hg⟩
theorem slips_step {w wr wq : World} {out : Value} {k : Nat} {X : Obj} {p c t s x h n y : Int} {S6 S8 : Value} (hk : k < 60) (hw : w.heap.size ≤ wr.heap.size) (hinv : INV w k out wr) (hfr : Fr (wr.alloc X).heap.size (fun _ => False) (wr.alloc X) wq)
    (q6 : YS (wr.alloc X).heap.size wq S6) (q8 : isSl S8) :
    ∃ v' w', (Builtin.append_ #[30, 30] 30 #[out, .slice (some ⟨wq.heap.size, 0, none⟩) 1 1]).run Try.prog (wq.alloc (.cells #[.int .i64 p, .int .i64 c, .int .i64 t, .int .i64 s, .int .i64 x, .int .i64 h, S6, .int .i64 n, S8, .int .i64 y] 27)) = .ok v' w' ∧ INV w (k + 1) v' w' := by
  obtain ⟨hF, xs, hrow, hblk, hcon⟩ := hinv
  have hblt : ∀ b, out.ownBlock = some b → b < wr.heap.size := fun b hb => by obtain ⟨cur, h⟩ := own_blk hrow hb; exact lt_of_some h
  obtain ⟨i0, hi0, hz0, hzs, hzb⟩ := in27
  obtain ⟨news, hnews⟩ : ∃ news : Array Value, news = #[.int .i64 p, .int .i64 c, .int .i64 t, .int .i64 s, .int .i64 x, .int .i64 h, S6, .int .i64 n, S8, .int .i64 y] := ⟨_, rfl⟩
  have hns : news.size = 10 := by rw [hnews]; rfl
  have one6 : S6.oneCell' = true := by obtain ⟨a, m, cap, rfl, _⟩ := q6; rfl
  have one8 : S8.oneCell' = true := by obtain ⟨a, m, cap, rfl⟩ := q8; rfl
  have h1 : ∀ u ∈ news.toList, u.oneCell' = true := by
    rw [hnews]
    intro u hu
    simp only [List.mem_cons, List.not_mem_nil, or_false] at hu
    rcases hu with rfl | rfl | rfl | rfl | rfl | rfl | rfl | rfl | rfl | rfl <;> first | rfl | assumption
  have hsz1 : (wr.alloc X).heap.size = wr.heap.size + 1 := by
    show (wr.heap.push _).size = _
    simp
  have hq : wr.heap.size + 1 ≤ wq.heap.size := by have := hfr.size; omega
  rw [← hnews]
  obtain ⟨W, hW⟩ : ∃ W, W = wq.alloc (.cells news 27) := ⟨_, rfl⟩
  have hWs : W.heap.size = wq.heap.size + 1 := by
    rw [hW]
    show (wq.heap.push _).size = _
    simp
  have hWq : ∀ b, b < wq.heap.size → W.heap[b]? = wq.heap[b]? := fun b hb => by rw [hW]; exact Go.Rx.heap_push _ _ _ hb
  have hWr : ∀ b, b < wr.heap.size → W.heap[b]? = wr.heap[b]? := fun b hb => by
    rw [hWq b (by omega), hfr.block b (by omega) (fun h => h)]; exact Go.Rx.heap_push _ _ _ hb
  have hWn : W.heap[wq.heap.size]? = some (.cells news 27 (0, 0)) := by rw [hW]; exact Go.Rx.heap_new _ _
  have hrow' : W.ownsRow 0 27 i0.size out k xs := by
    rw [hzs]; exact ownsRow_same hrow fun b hb => hWr b (hblt b hb)
  obtain ⟨v', w', hrun, hr', hg, hb'⟩ := append_some (w := W) (P := Try.prog) (ty := 30) (ad := ⟨wq.heap.size, 0, none⟩) (m := 1) (c := 1) (news := news.toList) un30 hi0 hz0 (by rw [hzs]; rfl) hrow' (by omega) (by rw [hzs]; simpa using hns)
    (fun j u hj => by
      rw [addr_add]
      have hj' : j < news.size := by
        rcases Nat.lt_or_ge j news.size with h' | h'
        · exact h'
        · rw [List.getElem?_eq_none (by simpa using h')] at hj; cases hj
      have := cell_of_heap hWn (j := 0 + j) (by omega)
      rw [this]
      congr 1
      rw [Nat.zero_add, Array.getD_eq_getD_getElem?]
      rw [Array.getElem?_toList] at hj
      rw [hj]; rfl) h1 (by omega) (by rw [hzb]; omega)
  rw [← hW]
  obtain ⟨g1, g2, g3, g4, g5⟩ := hg
  have old : ∀ b, b < wr.heap.size → ¬ out.ownBlock = some b → w'.heap[b]? = wr.heap[b]? := fun b hb hn => by
    rw [g5 b (by omega) (fun h => hn h.symm)]; exact hWr b hb
  have new : ∀ b, wr.heap.size ≤ b → b < wq.heap.size → w'.heap[b]? = wq.heap[b]? := fun b hb hb2 => by
    rw [g5 b (by omega) (fun h => by have := hblt b h.symm; omega)]; exact hWq b hb2
  have hns2 : news.toList.length = 10 := by rw [Array.length_toList]; exact hns
  have hxl : xs.length = k * 10 := hrow.1
  refine ⟨v', w', hrun, ⟨?_, ?_, ?_, ?_, ?_⟩, xs ++ news.toList, ?_, ?_, ?_⟩
  · rw [g1, hW]; exact hfr.os.trans hF.os
  · rw [g2, hW]; exact hfr.tape.trans hF.tape
  · rw [g3, hW]; exact hfr.output.trans hF.output
  · omega
  · intro b hb _
    rw [old b (by omega) (fun h => by have := hblk b h; omega)]
    exact hF.block b hb (fun h => h)
  · rw [← hzs]; exact hr'
  · intro b hb
    obtain ⟨q1, q2⟩ := hb' b hb
    rcases q2 with q2 | q2
    · exact hblk b q2
    · omega
  · intro i hi
    by_cases hik : i < k
    · obtain ⟨p', c', t', s', x', h', S6', n', S8', y', e1, e2, e3⟩ := hcon i hik
      refine ⟨p', c', t', s', x', h', S6', n', S8', y', fun j hj => ?_, e2.mono (Nat.le_refl _) (fun g cur hg hc => old g (lt_of_some hc) (fun ho => ?_)), e3⟩
      · rw [← e1 j hj]
        simp only [List.getD_eq_getElem?_getD]; rw [List.getElem?_append_left (by omega)]
      · obtain ⟨cur', hc'⟩ := own_blk hrow ho
        rw [hc'] at hc
        cases hc
    · have e2 : i = k := by omega
      subst e2
      refine ⟨p, c, t, s, x, h, S6, n, S8, y, fun j hj => ?_, q6.mono (by omega) (fun g cur hg hc => new g (by omega) (lt_of_some hc)), q8⟩
      have e1 : (xs ++ news.toList).getD (i * 10 + j) undef = news.toList.getD j undef := by
        simp only [List.getD_eq_getElem?_getD]; rw [List.getElem?_append_right (by omega), hxl, Nat.add_sub_cancel_left]
      rw [e1, hnews]
      rfl
set_option maxHeartbeats 4000000 in
set_option maxRecDepth 100000 in
theorem slips_walk {I : Nat → Prop} {w : World} {yb ab ao n c : Nat} {Q : List SV} (hld : Laid.ok Try.prog w) (hI : ∀ b, I b → b < w.heap.size) (hy : w.cell? ⟨yb, 1, none⟩ = some (.slice (some ⟨ab, ao, none⟩) n c)) (hn : n ≤ 60) (hnc : n ≤ c)
    (hf : ∀ wr, Fr w.heap.size (fun _ => False) w wr → ∀ k, k < n → ∃ p c t s x h a6 l6 c6 m a8 l8 c8 y, (loadVar 27 ⟨ab, ao + k * 10, none⟩).run Try.prog wr = .ok (slipV p c t s x h (.slice a6 l6 c6) m (.slice a8 l8 c8) y) wr ∧ Conc I wr (.slice a6 l6 c6) (.sl shK (slS Q k)) ∧ Conc I wr (.slice a8 l8 c8) (.sl tkK (slT Q k)) ∧ (slS Q k).length ≤ 1000000000 ∧ (slT Q k).length ≤ 1000000000) :
    Calls Try.prog 21 #[.pointer (some ⟨yb, 0, none⟩)] w fun e w' => ∃ out, e = .returned out ∧ INV w n out w' := by
  have HF := hidQ hf
  have HD := hidQ hld
  have HI := hidQ hI
  clear hf hld hI
  go_enter Try.func21, Try.ntmps21
  go_wp2_with fail
  go_loopw [3, 11] (fun out i wr => ∃ k : Nat, k ≤ n ∧ i = .int .i64 k ∧ Hid (INV w k out wr)) (fun _ i _ => n - (intOf i).toNat)
  case atStart =>
    exact ⟨0, Nat.zero_le _, rfl, hidQ ⟨Fr.refl _ _ _, [], ⟨rfl, .inl ⟨rfl, rfl⟩⟩, (fun b h => by cases h), fun i h => absurd h (Nat.not_lt_zero _)⟩⟩
  case round =>
    obtain ⟨k, hk, rfl, HB⟩ := hrel
    by_cases hkn : k < n
    · obtain ⟨p0, p1, p2, p3, p4, p5, a6, l6, c6, p7, a8, l8, c8, p9, HL', h6, h8, hS⟩ := HF.out wr HB.out.1 k hkn
      have HL := hidQ HL'
      clear HL'
      unfold slipV at HL
      have H6 := hidQ h6
      have H8 := hidQ h8
      have HS := hidQ hS
      clear h6 h8 hS
      go_wp2_with (refine wpList_load_at rfl 27 (.tmp 13) rfl _ rfl _ HL.out ?_)
      have hws : w.heap.size ≤ wr.heap.size := HB.out.1.size
      have hal : ∀ b, b < w.heap.size → (wr.alloc (.cells #[.int .i64 p0, .int .i64 p1, .int .i64 p2, .int .i64 p3, .int .i64 p4, .int .i64 p5, .slice a6 l6 c6, .int .i64 p7, .slice a8 l8 c8, .int .i64 p9] 27)).heap[b]? = wr.heap[b]? := fun b hb => Go.Rx.heap_push _ _ _ (by omega)
      refine (copied_calls (I := I) (Laid.mono ?_ (fun b hb => ?_) HD.out) (fun b hb => ?_) (H6.out.mono (fun b h => h) (fun b hb => hal b (HI.out b hb))) (H8.out.mono (fun b h => h) (fun b hb => hal b (HI.out b hb))) HS.out).mono ?_
      · show _ ≤ (wr.heap.push _).size
        rw [Array.size_push]; omega
      · rw [hal b hb]; exact HB.out.1.block b hb (fun h => h)
      · show b < (wr.heap.push _).size
        have := HI.out b hb
        rw [Array.size_push]; omega
      rintro e wq ⟨S6, S8, rfl, hfr, q6, q8⟩
      unfold slipV
      obtain ⟨v', w', hrun, hinv⟩ := slips_step (p := p0) (c := p1) (t := p2) (s := p3) (x := p4) (h := p5) (n := p7) (y := p9) (by omega) hws HB.out hfr q6 q8
      have HV := hidQ hinv
      have HR := hidQ hrun
      clear hfr q6 q8 hinv hrun hal
      go_wp2_with (at_builtin; refine Lib.wpList_append_run _ rfl _ _ _ _ rfl _ _ rfl rfl _ _ HR.out ?_)
      refine ⟨⟨k + 1, by omega, rfl, HV⟩, ?_⟩
      show n - ((k : Int) + 1).toNat < n - ((k : Int)).toNat
      omega
    · have hkn' : k = n := by omega
      subst hkn'
      have HB2 := hidQ HB.out
      go_wp2
      go_ret
      exact ⟨u3, rfl, HB2.out⟩
set_option maxHeartbeats 4000000 in
set_option maxRecDepth 100000 in
theorem slips_walk0 {w : World} {yb c : Nat} {ad : Option Addr} (hy : w.cell? ⟨yb, 1, none⟩ = some (.slice ad 0 c)) :
    Calls Try.prog 21 #[.pointer (some ⟨yb, 0, none⟩)] w fun e w' => ∃ out, e = .returned out ∧ INV w 0 out w' := by
  go_enter Try.func21, Try.ntmps21
  go_wp2_with fail
  refine wp_loop_once ?_
  go_wp2
  go_ret
  exact ⟨_, rfl, Fr.refl _ _ _, [], ⟨rfl, .inl ⟨rfl, rfl⟩⟩, (fun b h => by cases h), fun i h => absurd h (Nat.not_lt_zero _)⟩
/-- The payslips of a year, told anew. -/
theorem slips_young {I : Nat → Prop} {w : World} {yb : Nat} {v : Value} {Q : List SV} (hld : Laid.ok Try.prog w) (hI : ∀ b, I b → b < w.heap.size) (hy : w.cell? ⟨yb, 1, none⟩ = some v) (hv : Conc I w v (.sl slipK Q)) (hn : Q.length ≤ 60) (hQ : ∀ k, k < Q.length → (slS Q k).length ≤ 1000000000 ∧ (slT Q k).length ≤ 1000000000) :
    Calls Try.prog 21 #[.pointer (some ⟨yb, 0, none⟩)] w fun e w' => ∃ out, e = .returned out ∧ INV w Q.length out w' := by
  cases hv with
  | sl0 a cap => exact slips_walk0 hy
  | sl b off cap _ _ x hb hcap hsh hcell hcon =>
    refine slips_walk hld hI hy hn hcap (Q := Q) (fun wr hfr k hk => ?_)
    have hbw := hI b hb
    have hI' : ∀ b, I b → wr.heap[b]? = w.heap[b]? := fun b hb => hfr.block b (hI b hb) (fun h => h)
    have hL := load27 wr b (off + k * 10) (x k) (fun j hj => by
      rw [World.cell?_of_block (w := w) (hI' b hb)]
      exact hcell k j hk hj)
    have hs := hsh _ (List.getElem_mem hk)
    have c : ∀ j, j < 10 → Conc I w (x k j) (elCell Q k j) := fun j hj => hcon k j hk hj
    have sh : ∀ j, j < 10 → kOk (slipK.getD j .other) (elCell Q k j) := fun j hj => by
      have := hs.2 j hj
      unfold elCell
      rw [show Q.getD k .any = Q[k] by rw [List.getD_eq_getElem?_getD, List.getElem?_eq_getElem hk]; rfl]
      exact this
    have ci : ∀ j, j < 10 → slipK.getD j .other = .int .i64 → ∃ n, x k j = .int .i64 n := fun j hj he => by
      have h1 := sh j hj
      rw [he] at h1
      obtain ⟨n, hn⟩ := h1
      have h2 := c j hj
      rw [hn] at h2
      exact ⟨n, h2.inv_int⟩
    have cs : ∀ j ks, j < 10 → slipK.getD j .other = .sl ks → ∃ a l c, x k j = .slice a l c ∧ Conc I wr (.slice a l c) (.sl ks (elCell Q k j).toSl) := fun j ks hj he => by
      have h1 := sh j hj
      rw [he] at h1
      have h2 := c j hj
      rcases h1 with h1 | ⟨l, h1⟩
      · rw [h1] at h2 ⊢
        cases h2' : x k j <;> rw [h2'] at h2 <;> cases h2
        exact ⟨none, 0, 0, rfl, .sl0 _ _ _⟩
      · rw [h1] at h2 ⊢
        obtain ⟨a, cap, e⟩ := h2.inv_slc
        rw [e] at h2 ⊢
        exact ⟨a, _, cap, rfl, h2.mono (fun b h => h) hI'⟩
    obtain ⟨p, hp⟩ := ci 0 (by omega) rfl
    obtain ⟨c1, hc1⟩ := ci 1 (by omega) rfl
    obtain ⟨t, ht⟩ := ci 2 (by omega) rfl
    obtain ⟨s, hs⟩ := ci 3 (by omega) rfl
    obtain ⟨x4, hx4⟩ := ci 4 (by omega) rfl
    obtain ⟨h5, hh5⟩ := ci 5 (by omega) rfl
    obtain ⟨a6, l6, c6, e6, q6⟩ := cs 6 _ (by omega) rfl
    obtain ⟨n7, hn7⟩ := ci 7 (by omega) rfl
    obtain ⟨a8, l8, c8, e8, q8⟩ := cs 8 _ (by omega) rfl
    obtain ⟨y, hy9⟩ := ci 9 (by omega) rfl
    rw [hp, hc1, ht, hs, hx4, hh5, e6, hn7, e8, hy9] at hL
    exact ⟨p, c1, t, s, x4, h5, a6, l6, c6, n7, a8, l8, c8, y, hL, q6, q8, hQ k hk⟩
end Go.Rx

