/- A year: what it told is changed outside: gone through by hand. -/
import Derived.Test.YtkmiakgpkgmcbaaYz
import Derived.Tactics
import Derived.Tactics2
import Derived.WalkKit
import Derived.KernelRfl
namespace Go.Rx
open Go.Proofs Go.RowKit
set_option linter.unusedSimpArgs false
set_option linter.unusedVariables false
theorem wpList_store_at {P : Program} {ops : Array Oper} {rest : List Oper} {o : Oper} {a : Act} {w w' : World} {Q : Exit → Act → World → Prop} (hgd : o.guard = none) (ty : TypeId) (x y : Operand) (ho : o.op = .store ty x y)
    (ad : Addr) (v : Value) (hx : a.eval x = .pointer (some ad)) (hy : a.eval y = v) (hr : (storeVar ty ad v).run P w = .ok () w')
    (h : wpList P ops Q rest (a.put o.dst undef) w') : wpList P ops Q (o :: rest) a w :=
  wpList_plain hgd fun _ hK => by
    unfold Oper.wp execOp
    simp only [ho, hx, hy, Instr.storeAt, Instr.sureAddr, Sem.run_bind, Sem.run_pure, Result.andThen_ok, hr]
    exact hK _ _ h
theorem st2 {w : World} {g o : Nat} {cur : Array Value} (hg : w.heap[g]? = some (.cells cur 54 (0, 0))) (ho : o < cur.size) :
    ∃ w', (storeVar 2 ⟨g, o, none⟩ (.int .i64 99)).run Try.prog w = .ok () w' ∧ w'.os = w.os ∧ w'.tape = w.tape ∧ w'.output = w.output ∧ w'.heap.size = w.heap.size ∧ (∃ cur', cur'.size = cur.size ∧ w'.heap[g]? = some (.cells cur' 54 (0, 0))) ∧ ∀ b, b ≠ g → w'.heap[b]? = w.heap[b]? := by
  have hst := run_storeCells_at Try.prog g o 54 [.int .i64 99] 0 cur w hg (by show o + 0 + 1 ≤ cur.size; omega) (by simp [Value.oneCell'])
  simp only [Nat.add_zero] at hst
  refine ⟨w.setRow g (cur.toList.take o ++ [Value.int .i64 99] ++ cur.toList.drop (o + [Value.int .i64 99].length)).toArray, ?_, rfl, rfl, rfl, by simp [World.setRow], ⟨_, ?_, setRow_heap w g cur _ 54 _ hg⟩, fun b hb => setRow_other w g _ b hb⟩
  · have hsz : ((Try.prog.info? 2).map (·.size)) = some 1 := by kernel_rfl
    cases hq : Try.prog.info? 2 with
    | none => rw [hq] at hsz; cases hsz
    | some i =>
      have hs : i.size = 1 := by rw [hq] at hsz; simpa using hsz
      simp [storeVar, sizeOf, typeInfo, hq, Value.cells, hs] at hst ⊢
      exact hst
  · simp only [List.size_toArray, List.length_append, List.length_take, List.length_drop, List.length_cons, List.length_nil, Array.length_toList]
    omega
/-- As it was, but for rows of shares that lie anew. -/
structure NEAR (n : Nat) (a b : World) : Prop where
  os : b.os = a.os
  tape : b.tape = a.tape
  output : b.output = a.output
  size : a.heap.size ≤ b.heap.size
  blk : ∀ k, k < a.heap.size → b.heap[k]? = a.heap[k]? ∨ (n ≤ k ∧ ∃ cur cur', a.heap[k]? = some (.cells cur 54 (0, 0)) ∧ b.heap[k]? = some (.cells cur' 54 (0, 0)) ∧ cur'.size = cur.size)
theorem NEAR.refl (n : Nat) (a : World) : NEAR n a a := ⟨rfl, rfl, rfl, Nat.le_refl _, fun _ _ => .inl rfl⟩
theorem NEAR.trans {n : Nat} {a b c : World} (h : NEAR n a b) (k : NEAR n b c) : NEAR n a c :=
  ⟨k.os.trans h.os, k.tape.trans h.tape, k.output.trans h.output, Nat.le_trans h.size k.size, fun i hi => by
    rcases k.blk i (Nat.lt_of_lt_of_le hi h.size) with e | ⟨e1, cur, cur', e2, e3, e4⟩
    · rw [e]; exact h.blk i hi
    · rcases h.blk i hi with q | ⟨_, d, d', q2, q3, q4⟩
      · rw [q] at e2; exact .inr ⟨e1, cur, cur', e2, e3, e4⟩
      · rw [e2] at q3; cases q3; exact .inr ⟨e1, d, cur', q2, e3, e4.trans q4⟩⟩
theorem NEAR.alloc {n : Nat} {a b : World} (h : NEAR n a b) (o : Obj) : NEAR n a (b.alloc o) :=
  h.trans ⟨rfl, rfl, rfl, by show _ ≤ (b.heap.push _).size; rw [Array.size_push]; omega, fun k hk => .inl (Go.Rx.heap_push _ _ _ hk)⟩
theorem NEAR.fr {n : Nat} {a b : World} (h : NEAR n a b) (hn : n ≤ a.heap.size) : Fr n (fun _ => False) a b :=
  ⟨h.os, h.tape, h.output, h.size, fun k hk _ => by
    rcases h.blk k (by omega) with e | ⟨e, _⟩
    · exact e
    · omega⟩
theorem NEAR.row {n : Nat} {a b : World} (h : NEAR n a b) {k : Nat} {cur : Array Value} (hk : a.heap[k]? = some (.cells cur 27 (0, 0))) : b.heap[k]? = some (.cells cur 27 (0, 0)) := by
  rcases h.blk k (lt_of_some hk) with e | ⟨_, c, c', e, _⟩
  · rw [e]; exact hk
  · rw [e] at hk; cases hk
theorem NEAR.ys {n : Nat} {a b : World} (h : NEAR n a b) {v : Value} (hv : YS n a v) : YS n b v := by
  obtain ⟨ad, m, c, e, hv⟩ := hv
  refine ⟨ad, m, c, e, hv.imp (fun h => h) ?_⟩
  rintro ⟨g, cur, h1, h2, h3, h4, h5⟩
  rcases h.blk g (lt_of_some h3) with e | ⟨_, d, d', e1, e2, e3⟩
  · exact ⟨g, cur, h1, h2, e.trans h3, h4, h5⟩
  · rw [h3] at e1; cases e1; exact ⟨g, d', h1, h2, e2, by omega, h5⟩
set_option maxHeartbeats 8000000 in
set_option maxRecDepth 100000 in
theorem partB {I : Nat → Prop} {w : World} {yb : Nat} {v : Value} {Q : List SV} {Qp : Exit → Act → World → Prop} (f : Nat → Value) (h5 : f 5 = .pointer (some ⟨yb, 0, none⟩)) (hld : Laid.ok Try.prog w) (hI : ∀ b, I b → b < w.heap.size) (hy : w.cell? ⟨yb, 1, none⟩ = some v) (hv : Conc I w v (.sl slipK Q)) (hn : Q.length ≤ 60) (hQ : ∀ k, k < Q.length → (slS Q k).length ≤ 1000000000 ∧ (slT Q k).length ≤ 1000000000)
    (hnext : ∀ a' w', a'.tmps.size = 188 → a'.defers = [] → a'.tmps.getD 5 undef = f 5 → a'.tmps.getD 7 undef = f 7 → a'.tmps.getD 13 undef = f 13 → Fr w.heap.size (fun _ => False) w w' → (fromC 43 (fromC 34 (bodyOf Try.f6))).wp Try.prog Qp a' w') :
    (fromC 34 (bodyOf Try.f6)).wp Try.prog Qp ⟨#[f 0, f 1, f 2, f 3, f 4, f 5, f 6, f 7, f 8, f 9, f 10, f 11, f 12, f 13, f 14, f 15, f 16, f 17, f 18, f 19, f 20, f 21, f 22, f 23, f 24, f 25, f 26, f 27, f 28, f 29, f 30, f 31, f 32, f 33, f 34, f 35, f 36, f 37, f 38, f 39, f 40, f 41, f 42, f 43, f 44, f 45, f 46, f 47, f 48, f 49, f 50, f 51, f 52, f 53, f 54, f 55, f 56, f 57, f 58, f 59, f 60, f 61, f 62, f 63, f 64, f 65, f 66, f 67, f 68, f 69, f 70, f 71, f 72, f 73, f 74, f 75, f 76, f 77, f 78, f 79, f 80, f 81, f 82, f 83, f 84, f 85, f 86, f 87, f 88, f 89, f 90, f 91, f 92, f 93, f 94, f 95, f 96, f 97, f 98, f 99, f 100, f 101, f 102, f 103, f 104, f 105, f 106, f 107, f 108, f 109, f 110, f 111, f 112, f 113, f 114, f 115, f 116, f 117, f 118, f 119, f 120, f 121, f 122, f 123, f 124, f 125, f 126, f 127, f 128, f 129, f 130, f 131, f 132, f 133, f 134, f 135, f 136, f 137, f 138, f 139, f 140, f 141, f 142, f 143, f 144, f 145, f 146, f 147, f 148, f 149, f 150, f 151, f 152, f 153, f 154, f 155, f 156, f 157, f 158, f 159, f 160, f 161, f 162, f 163, f 164, f 165, f 166, f 167, f 168, f 169, f 170, f 171, f 172, f 173, f 174, f 175, f 176, f 177, f 178, f 179, f 180, f 181, f 182, f 183, f 184, f 185, f 186, f 187], []⟩ w := by
  have HS := hidQ (slips_young hld hI hy hv hn hQ)
  have HN := hidQ hnext
  clear hnext hQ hv hy hI hld
  conv in fromC 34 (bodyOf Try.f6) => whnf
  refine wp_seq_k ?_
  intro K1 hK1
  have HK1 := hidQ hK1
  clear hK1
  rw [h5]
  go_wp2_with fail
  refine HS.out.mono ?_
  rintro e w1 ⟨out, rfl, hinv⟩
  obtain ⟨hF, xs, hrow, hblk, hcon⟩ := hinv
  have HF := hidQ hF
  have HC := hidQ hcon
  have hxl : xs.length = Q.length * 10 := hrow.1
  rcases hrow.2 with ⟨rfl, h0⟩ | ⟨g, cap, cur, rfl, _, hg, hnc, _, hcs, htk⟩
  · clear hF hcon hblk hrow
    go_wp2_with fail
    refine wp_loop_once ?_
    go_wp2_with fail
    refine HK1.out _ _ ?_
    exact HN.out _ _ rfl rfl h5.symm rfl rfl HF.out
  · clear hF hcon
    have HG := hidQ hg
    have hgn : w.heap.size ≤ g := hblk g rfl
    have hw1 : w.heap.size ≤ w1.heap.size := HF.out.size
    have HX := hidQ (show ∀ i j, i < Q.length → j < 10 → w1.cell? ⟨g, i * 10 + j, none⟩ = some (xs.getD (i * 10 + j) undef) from fun i j hi hj => by
      have := hrow.cells (g := g) rfl (i * 10 + j) (xs.getD (i * 10 + j) undef) (by rw [List.getD_eq_getElem?_getD, List.getElem?_eq_getElem (by omega)]; rfl)
      rw [addr_add, Nat.zero_add] at this
      exact this)
    clear hblk hrow hg htk hcs
    go_wp2_with fail
    go_loopw [112] (fun i wr => ∃ k : Nat, k ≤ Q.length ∧ i = .int .i64 k ∧ Hid (NEAR w.heap.size w1 wr)) (fun i _ => Q.length - (intOf i).toNat)
    case atStart => exact ⟨0, Nat.zero_le _, rfl, hidQ (NEAR.refl _ _)⟩
    case round =>
      obtain ⟨k, hk, rfl, HB⟩ := hrel
      by_cases hkn : k < Q.length
      · obtain ⟨p0, p1, p2, p3, p4, p5, S6, p7, S8, p9, e1, e2, a8, m8, c8, rfl⟩ := HC.out k hkn
        obtain ⟨a6, m6, c6, rfl, e2⟩ := e2
        have HL := hidQ (load27 wr g (k * 10) (fun j => xs.getD (k * 10 + j) undef) (fun j hj => by
          rw [World.cell?_of_block (w := w1) ((HB.out.row HG.out).trans HG.out.symm)]
          exact HX.out k j hkn hj))
        rw [e1 0 (by omega), e1 1 (by omega), e1 2 (by omega), e1 3 (by omega), e1 4 (by omega), e1 5 (by omega), e1 6 (by omega), e1 7 (by omega), e1 8 (by omega), e1 9 (by omega)] at HL
        have HL : Hid ((loadVar 27 ⟨g, k * 10, none⟩).run Try.prog wr = .ok (.agg #[.int .i64 p0, .int .i64 p1, .int .i64 p2, .int .i64 p3, .int .i64 p4, .int .i64 p5, .slice a6 m6 c6, .int .i64 p7, .slice a8 m8 c8, .int .i64 p9]) wr) := HL
        clear e1
        rcases e2 with rfl | ⟨g6, cur6, rfl, hg6, hc6, hm6, hm9⟩
        · go_wp2_with (refine wpList_load_at rfl 27 (.tmp 114) rfl _ rfl _ HL.out ?_)
          refine wp_loop_once ?_
          go_wp2_with fail
          refine ⟨⟨k + 1, by omega, rfl, hidQ (HB.out.alloc _)⟩, ?_⟩
          show Q.length - ((k : Int) + 1).toNat < Q.length - ((k : Int)).toNat
          omega
        · have HM := hidQ (show m6 * 2 ≤ cur6.size ∧ w.heap.size ≤ g6 from ⟨hm6, hg6⟩)
          have HC6 := hidQ hc6
          clear hm6 hg6 hc6
          go_wp2_with (refine wpList_load_at rfl 27 (.tmp 114) rfl _ rfl _ HL.out ?_)
          obtain ⟨wo, hwo⟩ : ∃ wo, wo = wr := ⟨_, rfl⟩
          have HWO := hidQ hwo
          clear hwo
          go_loopw [119] (fun i wi => ∃ j : Nat, j ≤ m6 ∧ i = .int .i64 j ∧ Hid (NEAR w.heap.size (wr.alloc (.cells #[.int .i64 p0, .int .i64 p1, .int .i64 p2, .int .i64 p3, .int .i64 p4, .int .i64 p5, .slice (some ⟨g6, 0, none⟩) m6 c6, .int .i64 p7, .slice a8 m8 c8, .int .i64 p9] 27)) wi)) (fun i _ => m6 - (intOf i).toNat)
          case atStart => exact ⟨0, Nat.zero_le _, rfl, hidQ (NEAR.refl _ _)⟩
          case round =>
            have hwo := HWO.out
            clear HWO
            subst hwo
            obtain ⟨j, hj, rfl, HI⟩ := hrel
            by_cases hjm : j < m6
            · have hbox := HI.out.row (Go.Rx.heap_new _ _)
              have hcell : wr.cell? ⟨wo.heap.size, 6, none⟩ = some (.slice (some ⟨g6, 0, none⟩) m6 c6) := cell_of_heap hbox (j := 6) (by simp)
              have hall : NEAR w.heap.size w1 wr := (HB.out.alloc _).trans HI.out
              obtain ⟨cur', hc', hs'⟩ : ∃ cur', wr.heap[g6]? = some (.cells cur' 54 (0, 0)) ∧ cur'.size = cur6.size := by
                rcases hall.blk g6 (lt_of_some HC6.out) with e | ⟨_, d, d', e1, e2, e3⟩
                · exact ⟨cur6, e.trans HC6.out, rfl⟩
                · rw [HC6.out] at e1; cases e1; exact ⟨d', e2, e3⟩
              obtain ⟨w2, hr, r1, r2, r3, r4, ⟨cur2, r5, r6⟩, r7⟩ := st2 hc' (o := j * 2 + 1) (by have := HM.out.1; omega)
              have HR := hidQ hr
              have HI2 := hidQ (HI.out.trans ⟨r1, r2, r3, Nat.le_of_eq r4.symm, fun b hb => by
                by_cases hbg : b = g6
                · subst hbg; exact .inr ⟨HM.out.2, cur', cur2, hc', r6, r5⟩
                · exact .inl (r7 b hbg)⟩)
              clear hbox hall hc' hs' hr r1 r2 r3 r4 r5 r6 r7
              go_wp2_with (refine wpList_store_at rfl 2 (.tmp 126) (.const (.int .i64 99)) rfl ⟨g6, j * 2 + 1, none⟩ (.int .i64 99) rfl rfl HR.out ?_)
              refine ⟨⟨j + 1, by omega, rfl, HI2⟩, ?_⟩
              show m6 - ((j : Int) + 1).toNat < m6 - ((j : Int)).toNat
              omega
            · have hjm' : j = m6 := by omega
              subst hjm'
              have HI2 := hidQ HI.out
              go_wp2_with fail
              refine ⟨⟨k + 1, by omega, rfl, hidQ ((HB.out.alloc _).trans HI2.out)⟩, ?_⟩
              show Q.length - ((k : Int) + 1).toNat < Q.length - ((k : Int)).toNat
              omega
      · have HB2 := hidQ HB.out
        go_wp2_with fail
        refine HK1.out _ _ ?_
        exact HN.out _ _ rfl rfl h5.symm rfl rfl (HF.out.trans (HB2.out.fr hw1))
end Go.Rx

