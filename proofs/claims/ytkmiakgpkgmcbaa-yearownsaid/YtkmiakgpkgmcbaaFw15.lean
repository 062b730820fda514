/- The framework, part 15: conversions; every operation does what the executor says. -/
import Derived.Test.YtkmiakgpkgmcbaaFw14m
import Derived.Laws.OwnMore
namespace Go.Rx
set_option linter.unusedSectionVars false
open Go.RowKit

section
variable {cx : Cx} {P : Program} [Laid P] {o : Oper}

theorem bytes_fold : ∀ (ns : List Int) (b : ByteArray), (ns.foldl (fun r n => r.push (UInt8.ofNat n.toNat)) b).data.toList = b.data.toList ++ ns.map fun n => UInt8.ofNat n.toNat
  | [], b => by simp
  | n :: r, b => by
    rw [List.foldl_cons, bytes_fold r]
    simp [ByteArray.push]

theorem sound_convert (hP : CxOk P cx) {t d : Nat} {y : Operand} (ho : o.op = .convert t d y) : Sound cx P o := by
  intro B M I0 G w0 E s a w K Q h hd hob hK
  have e : opx cx s.mem (ev s.tm) o = convOf cx s.mem t d (ev s.tm y) := by simp [opx, ho, opE]
  rw [e] at hob hK
  unfold convOf at hob hK
  have hy := h.eval y
  cases hs : tyOf cx t with
  | none => simp only [hs] at hob; exact hob.elim
  | some S =>
    cases ht : tyOf cx d with
    | none => simp only [hs, ht] at hob; exact hob.elim
    | some L =>
      obtain ⟨ds, s1, s2⟩ := (tyRun hP hs).desc
      obtain ⟨dd, d1, d2⟩ := (tyRun hP ht).desc
      simp only [hs, ht] at hob hK
      cases hk : L.k <;> simp only [hk] at hob hK d2 <;> try exact hob.elim
      · rename_i k'
        have := TkOk_int d2
        subst this
        cases hv : ev s.tm y <;> simp only [hv] at hob hK <;> try exact hob.elim
        · rename_i k n
          rw [hv] at hy
          refine op_val h hd (x := .int k' (k'.wrap n)) ?_ (.conc _ _ (.int _ _)) hK
          simp [execOp, ho, convert, run_underlying s1, run_underlying d1, hy.inv_int, Conv.intToInt]
        · rename_i b
          rw [hv] at hy
          obtain ⟨n, hn⟩ := Option.isSome_iff_exists.1 hob.out
          refine op_val h hd (x := .int k' n) ?_ (by rw [show fTo k' b = n by unfold fTo; rw [hn]; rfl]; exact .conc _ _ (.int _ _)) hK
          have := run_convert_float_int (P := P) w t d .f64 k' b n (by rw [s1]; rfl) d1 hn
          simp [execOp, ho, hy.inv_flt, this]
      · have := TkOk_str d2
        subst this
        cases hsk : S.k <;> simp only [hsk] at hob hK s2 <;> try exact hob.elim
        · have := TkOk_str s2
          subst this
          cases hv : ev s.tm y <;> simp only [hv] at hob hK <;> try exact hob.elim
          rename_i l
          rw [hv] at hy
          obtain ⟨b, e1, e2⟩ := hy.inv_str
          refine op_val h hd (x := .string b) ?_ (.conc _ _ (.str _ _ e2)) hK
          simp [execOp, ho, convert, run_underlying s1, run_underlying d1, e1]
        · rename_i et
          have := TkOk_sl s2
          subst this
          cases hte : tyOf cx et with
          | none => simp only [hte] at hob; exact hob.elim
          | some Le =>
            obtain ⟨de, e1, e2⟩ := (tyRun hP hte).desc
            simp only [hte] at hob hK
            cases hr : rowOf s.mem (ev s.tm y) with
            | none => simp only [hr] at hob; exact hob.elim
            | some r =>
              obtain ⟨ks, l, rd⟩ := r
              simp only [hr] at hob hK
              cases hek : Le.k <;> simp only [hek] at hob hK e2 <;> try exact hob.elim
              rename_i k
              cases hk1 : decide (k = .u8) <;> cases hk2 : cksEq ks [.int .u8] <;> simp only [hk1, hk2] at hob hK <;> try exact hob.elim
              have hk1 := of_decide_eq_true hk1
              have hk2 := cksEq_eq _ _ hk2
              subst hk1 hk2
              have := TkOk_int e2
              subst this
              obtain ⟨hsh, hcase⟩ := rowOf_cells h.ch hy hr
              have hconv : ∀ {v : Value} {x : Value}, (∀ n, x ≠ .int .u8 n) → (match x with | .slice _ _ _ => True | _ => False) → (Conv.bytesToString x).run P w = .ok v w → a.eval y = x → (execOp a.eval o).run P w = .ok (.value v) w := by
                intro v x _ hx hv ex
                cases x <;> first | exact hx.elim | skip
                simp [execOp, ho, convert, run_underlying s1, run_underlying d1, run_underlying e1, ex, hv]
              -- each byte
              have hbyte : ∀ i, i < l.length → ∃ n : Int, elCell l i 0 = .int .u8 n := fun i hi => by
                have := shOk_get hsh hi (j := 0) (by simp)
                exact this
              rcases hcase with ⟨ey, el⟩ | ⟨el, ad, cap, ey⟩ | ⟨b, off, cap, f, ey, hf⟩
              · subst el
                exact op_val h hd (hconv (v := .string .empty) (by simp) trivial (by simp [Conv.bytesToString]) ey) (.conc _ _ (.str _ _ rfl)) hK
              · subst el
                cases ad with
                | none => exact op_val h hd (hconv (v := .string .empty) (by simp) trivial (by simp [Conv.bytesToString]) ey) (.conc _ _ (.str _ _ rfl)) hK
                | some ad =>
                  have := run_bytesToString (P := P) w ad 0 cap [] (by simp [loadCells, loadCellsFrom])
                  exact op_val h hd (hconv (by simp) trivial this ey) (.conc _ _ (.str _ _ rfl)) hK
              · have hlc : (loadCells ⟨b, off, none⟩ l.length).run P w = .ok ((l.map fun v => (v.cells.getD 0 .any).toInt).map (Value.int .u8)).toArray w := by
                  rw [run_loadCells w ⟨b, off, none⟩ l.length (fun i => f i 0) (fun i hi => by
                    have := (hf i 0 hi (by simp)).1
                    simpa [addr_add] using this)]
                  congr 2
                  apply List.ext_getElem
                  · simp
                  · intro i h1 h2
                    have hi : i < l.length := by simpa using h1
                    obtain ⟨n, hn⟩ := hbyte i hi
                    have hc := (hf i 0 hi (by simp)).2
                    rw [hn] at hc
                    have hfi : f i 0 = .int .u8 n := (CV.conc (E := E) (m := lkO s.mem) _ _ hc).inv_int
                    have hel : (l[i].cells.getD 0 .any) = .int .u8 n := by
                      rw [← hn]
                      simp [elCell, List.getD_eq_getElem?_getD, hi]
                    simp only [List.getElem_map, List.getElem_range, hfi, hel, SV.toInt]
                refine op_val h hd (hconv (by simp) trivial (run_bytesToString (P := P) w _ l.length cap _ hlc) ey) (.conc _ _ (.str _ _ ?_)) hK
                rw [bytes_fold]
                simp [bytesOf]
      · have := TkOk_flt d2
        subst this
        cases hv : ev s.tm y <;> simp only [hv] at hob hK <;> try exact hob.elim
        rename_i k n
        rw [hv] at hy
        refine op_val h hd (x := .float .f64 (fI n)) ?_ (.conc _ _ (.flt _)) hK
        have := run_convert_int_float (P := P) w t d k .f64 n (by rw [s1]; rfl) d1
        simp [execOp, ho, hy.inv_int, this]
        rfl

/-- A look whether a pointer is nil. -/
theorem sound_nilCheck {y : Operand} (ho : o.op = .nilCheck y) : Sound cx P o := by
  intro B M I0 G w0 E s a w K Q h hd hob hK
  have e : opx cx s.mem (ev s.tm) o = opE cx s.mem (ev s.tm) o.dst (.nilCheck y) := by simp [opx, ho]
  rw [e] at hob hK
  simp only [opE] at hob hK
  have hy := h.eval y
  split at hob
  · rename_i c off hv
    rw [hv] at hy hK
    obtain ⟨b, t, cs, e1, e2⟩ := hy.inv_ptr
    refine op_val h hd (x := a.eval y) ?_ hy hK
    simp only [execOp, ho, e1]
    rfl
  · rename_i ks l i off hv
    rw [hv] at hy hK
    obtain ⟨b, p, e1, _⟩ := ep_add hy.inv_ep
    refine op_val h hd (x := a.eval y) ?_ hy hK
    simp only [execOp, ho, e1]
    rfl
  · rename_i b ks l i off hv
    rw [hv] at hy hK
    have hb : b = true := hob.out
    have q3 := (oep_inv hy.inv_oep).2 hb
    obtain ⟨b', p, e1, _⟩ := ep_add q3
    refine op_val h hd (x := a.eval y) ?_ (.conc _ _ q3) hK
    simp only [execOp, ho, e1]
    rfl
  · exact hob.elim

theorem sound_makeFunc {fn : Fn} {first caps : Array Operand} (ho : o.op = .makeFunc fn first caps) : Sound cx P o := by
  intro B M I0 G w0 E s a w K Q h hd hob hK
  have e : opx cx s.mem (ev s.tm) o = opE cx s.mem (ev s.tm) o.dst (.makeFunc fn first caps) := by simp [opx, ho]
  rw [e] at hob hK
  simp only [opE] at hob hK
  split at hob
  · rename_i f h1 h2
    simp only [h1, h2] at hK
    have hf : first = #[] := by
      cases first with
      | mk l => have h1 : l = [] := h1; rw [h1]
    subst hf
    refine op_val h hd (x := .func (.func f) #[] (caps.map a.eval)) ?_ (.fn f _ _ (by simp) (fun i => ?_)) hK
    · simp [execOp, ho, Instr.makeFunc]
    · have := argsEval caps.toList (ev s.tm) a.eval h.eval i
      simpa [List.getD_eq_getElem?_getD, Array.getD_eq_getD_getElem?] using this
  · exact hob.elim

theorem made_getD {z : Array Value} {n i j : Nat} (hz : 0 < z.size) (hi : i < n) (hj : j < z.size) : (madeCells z (n * z.size)).toList.getD (i * z.size + j) undef = z.getD j undef := by
  have hlt : i * z.size + j < n * z.size := by
    have : (i + 1) * z.size ≤ n * z.size := Nat.mul_le_mul_right _ hi
    rw [Nat.add_mul, Nat.one_mul] at this
    omega
  unfold madeCells
  rw [List.getD_eq_getElem?_getD, Array.getElem?_toList, Array.getElem?_map, Array.getElem?_range]
  rw [if_pos hlt]
  have e : (i * z.size + j) % z.size = j := by
    rw [Nat.add_comm, Nat.add_mul_mod_self_right, Nat.mod_eq_of_lt hj]
  simp only [Option.map_some, Option.getD_some, e]
  rw [getElem!_pos z j hj, Array.getD_eq_getD_getElem?, Array.getElem?_eq_getElem hj]
  rfl

theorem sound_makeSlice (hP : CxOk P cx) {t : Nat} {len cap : Operand} (ho : o.op = .makeSlice t len cap) : Sound cx P o := by
  intro B M I0 G w0 E s a w K Q h hd hob hK
  have e : opx cx s.mem (ev s.tm) o = opE cx s.mem (ev s.tm) o.dst (.makeSlice t len cap) := by simp [opx, ho]
  rw [e] at hob hK
  simp only [opE] at hob hK
  have hl := h.eval len
  have hc := h.eval cap
  split at hob
  · rename_i d L k n k' n' hdst ht hvl hvc
    simp only [hdst, ht, hvl, hvc] at hK
    rw [hvl] at hl
    rw [hvc] at hc
    have hl := hl.inv_int
    have hc := hc.inv_int
    obtain ⟨dd, d1, d2⟩ := (tyRun hP ht).desc
    split at hob
    · rename_i et hk
      rw [hk] at d2
      have := TkOk_sl d2
      subst this
      simp only [hk] at hK
      split at hob
      · rename_i Le hte
        simp only [hte] at hK
        obtain ⟨inf, z, i1, i2, i3, i4, i5, i6, i7⟩ := (tyRun hP hte).info
        split at hob
        · rename_i hfree hkb
          simp only [hfree, hkb] at hK
          simp only [Bool.and_eq_true] at hkb
          obtain ⟨b1, b2⟩ := hkb
          rw [Nat.blt_eq] at b1
          obtain ⟨k1, k2⟩ := kBs_get7 b2
          have hblk : ∀ {w' : World} {m c n : Nat} {xs : List Value}, w'.ownsRow 0 et Le.ks.length (.slice (some ⟨w.heap.size, 0, none⟩) m c) n xs → ∀ b, Value.ownBlock (.slice (some ⟨w.heap.size, 0, none⟩) m c) = some b → b < w'.heap.size ∧ ((lkO s.mem (cx.off + d) ≠ none ∧ E.loc (cx.off + d) = some b) ∨ w.heap.size ≤ b) := by
            intro w' m c n xs ho b hb
            simp only [Value.ownBlock, Option.some.injEq] at hb
            subst hb
            refine ⟨?_, .inr (Nat.le_refl _)⟩
            rcases ho.2 with ⟨q, _⟩ | ⟨g, cp, cur, q1, _, q2, _⟩
            · cases q
            · simp only [Value.slice.injEq, Option.some.injEq, Addr.mk.injEq] at q1
              rw [← q1.1.1] at q2
              exact (Array.getElem?_eq_some_iff.1 q2).1
          split at hob
          · rename_i hz
            simp only [hz] at hK
            have hn0 : n = 0 := by
              unfold isZ at hz
              split at hz
              · have hvl' := hvl
                simp only [ev, ofVal] at hvl'
                cases hvl'; rfl
              · cases hz
            subst hn0
            obtain ⟨⟨q2, q3, q4⟩⟩ := hob
            obtain ⟨N, rfl⟩ : ∃ N : Nat, n' = N := ⟨n'.toNat, by omega⟩
            obtain ⟨w', r1, r2, r3⟩ := run_make_own w 0 t et inf z Le.ks.length d1 i1 i4 i2 k k' N (by
              have : (N : Int) * inf.bytes ≤ 1099511627776 := by rw [i3]; exact q3
              have e2 : ((inf.bytes * N : Nat) : Int) = (N : Int) * inf.bytes := by rw [Int.natCast_mul, Int.mul_comm]
              omega) (by simp only [maxLen]; omega) (Nat.zero_le _)
            have hrun : (execOp a.eval o).run P w = .ok (.value (.slice (some ⟨w.heap.size, 0, none⟩) 0 N)) w' := by
              simp only [execOp, ho, hl, hc, Sem.run_bind, r1, Result.andThen_ok]
              rfl
            unfold Oper.wp
            rw [hrun]
            refine hK (E.withRow (cx.off + d) (.slice (some ⟨w.heap.size, 0, none⟩) 0 N)) _ _ ?_
            rw [hdst]
            exact h.row (row := none) (fz := []) rfl (fun _ => rfl) (.inl ⟨hfree, rfl⟩) r3 (fun k hk => by cases hk) (hblk r2) (fun v hv => by cases hv) r2 (fun i j hi => by simp at hi) (fun k hk => dOk_lt hd k (by rw [hdst]; exact hk))
          · rename_i hz
            simp only [hz] at hK
            obtain ⟨⟨q1, q2, q3, q4⟩⟩ := hob
            subst q1
            obtain ⟨N, rfl⟩ : ∃ N : Nat, n = N := ⟨n.toNat, by omega⟩
            obtain ⟨w', r1, r2, r3⟩ := run_make_full w 0 t et inf z Le.ks.length d1 i1 i4 i2 k k' N (by
              have : (N : Int) * inf.bytes ≤ 1099511627776 := by rw [i3]; exact q3
              have e2 : ((inf.bytes * N : Nat) : Int) = (N : Int) * inf.bytes := by rw [Int.natCast_mul, Int.mul_comm]
              omega) (by simp only [maxLen]; omega) (Nat.zero_le _)
            have hrun : (execOp a.eval o).run P w = .ok (.value (.slice (some ⟨w.heap.size, 0, none⟩) N N)) w' := by
              simp only [execOp, ho, hl, hc, Sem.run_bind, r1, Result.andThen_ok]
              rfl
            have hel : (elOf Le.zero).cells = Le.zero := by
              unfold elOf
              split
              · rename_i u hu
                have := (kB_ok7 (k2 0 b1)).2.2
                rw [hu] at this ⊢
                simpa using this
              · rfl
            have hlen : (List.replicate (Int.toNat (N : Int)) (elOf Le.zero)).length = N := by simp
            unfold Oper.wp
            rw [hrun]
            refine hK (E.withRow (cx.off + d) (.slice (some ⟨w.heap.size, 0, none⟩) N N)) _ _ ?_
            rw [hdst]
            refine h.row (row := none) (fz := []) rfl (fun _ => rfl) (.inl ⟨hfree, rfl⟩) r3 (fun k hk => by cases hk) (hblk r2) (fun v hv => ?_) (by rw [hlen]; exact r2) (fun i j hi hj => ?_) (fun k hk => dOk_lt hd k (by rw [hdst]; exact hk))
            · have := List.eq_of_mem_replicate hv
              subst this
              exact ⟨by rw [hel, i6], fun j hj => by rw [hel]; exact (kB_ok7 (k2 j hj)).1⟩
            · rw [hlen] at hi
              have hzs : z.cells.size = Le.ks.length := i5
              have e1 : elCell (List.replicate (Int.toNat (N : Int)) (elOf Le.zero)) i j = Le.zero.getD j .any := by
                unfold elCell
                have : (List.replicate (Int.toNat (N : Int)) (elOf Le.zero)).getD i .any = elOf Le.zero := by
                  rw [List.getD_eq_getElem?_getD, List.getElem?_replicate, if_pos (by simpa using hi)]; rfl
                rw [this, hel]
              rw [e1]
              have e2 := made_getD (z := z.cells) (n := N) (i := i) (j := j) (by omega) hi (by omega)
              rw [hzs] at e2
              rw [e2]
              exact i7 _ _ j
        · exact hob.elim
      · exact hob.elim
    · exact hob.elim
  · exact hob.elim

/-- The end of a slice of the function's own, cleared. -/
theorem sound_clear (hP : CxOk P cx) {c : Call} (ho : o.op = .call c) (hc : c.callee = .builtin .clear) : Sound cx P o := by
  intro B M I0 G w0 E s a w K Q h hd hob hK
  have e : opx cx s.mem (ev s.tm) o = builtinOf cx s.mem .clear c.argTypes.toList o.dst (c.args.toList.map (ev s.tm)) := by simp [opx, ho, opE, hc]
  rw [e] at hob hK
  generalize hargs : c.args.toList.map (ev s.tm) = args at hob hK
  generalize hts : c.argTypes.toList = ts at hob hK
  simp only [builtinOf] at hob hK
  unfold clrOf at hob hK
  split at hob
  · rename_i t v
    simp only at hK
    obtain ⟨x, e1, hx⟩ := args_one h.eval hargs
    have e2 := list_one hts
    split at hob
    · rename_i c0 sz k ver L ht
      simp only [ht] at hK
      obtain ⟨d, h1, h2⟩ := (tyRun hP ht).desc
      cases hk : L.k <;> simp only [hk] at hob hK h2 <;> try exact hob.elim
      rename_i et
      have := TkOk_sl h2
      subst this
      split at hob
      · rename_i Le v' e' ks l hte hm
        simp only [hte, hm] at hK
        obtain ⟨inf, z, i1, i2, i3, i4, i5, i6, i7⟩ := (tyRun hP hte).info
        cases hq : (Nat.beq v' ver && cksEq ks Le.ks && kBs Le.ks Le.zero && Nat.beq sz ks.length && plainK ks && Nat.blt 0 ks.length) with
        | false => simp only [hq] at hob; exact hob.elim
        | true =>
          simp only [hq] at hob hK
          simp only [Bool.and_eq_true] at hq
          obtain ⟨⟨⟨⟨⟨p1, p2⟩, p3⟩, p4⟩, p5⟩, p6⟩ := hq
          have p1 := Nat.eq_of_beq_eq_true p1
          have p2 := cksEq_eq _ _ p2
          have p4 := Nat.eq_of_beq_eq_true p4
          have p6 : 0 < ks.length := by simpa [Nat.blt_eq] using p6
          subst p1
          subst p4
          obtain ⟨hkl⟩ := hob
          have k2 := (kBs_get7 p3).2
          have hel : (elOf Le.zero).cells = Le.zero := by
            unfold elOf
            split
            · rename_i u hu
              have := (kB_ok7 (k2 0 (by rw [← p2]; exact p6))).2.2
              rw [hu] at this ⊢
              simpa using this
            · rfl
          rw [← p2] at k2 i2 i5 i6
          have hrow : RowR E w c0 e' ks l := by have := h.ch c0; rw [hm] at this; exact this
          obtain ⟨v2, g1, g2⟩ := hx.inv_otl
          rw [hm] at g1
          simp only [verOf, Option.some.injEq] at g1
          have hxe := g2 g1
          obtain ⟨cs, e5⟩ := builtin_run (P := P) (a := a) ho hc w
          have run : ∀ {x' : Value} {w' : World}, (Builtin.clear_ #[t] o.type #[x]).run P w = .ok x' w' → (execOp a.eval o).run P w = .ok (.value x') w' := fun hh => by
            rw [e5]
            simp [builtin, e1, e2, hh]
          have nothing : ∀ {ad : Option Addr} {cap : Nat}, E.cv c0 = .slice ad l.length cap → l.length = k → Oper.wp P o a w K Q := by
            intro ad cap he hlk
            have hx0 := hxe _ _ _ he
            rw [hlk, Nat.sub_self] at hx0
            have hrun := run (x' := .tuple #[]) (w' := w) (by
              rw [hx0]
              cases hq : (if cap = k then ad else Option.map (fun x => x.add (k * ks.length)) ad) <;> simp [Builtin.clear_, run_underlying h1])
            unfold Oper.wp
            rw [hrun]
            refine hK E _ _ ?_
            have hll : l.take k ++ List.replicate (l.length - k) (elOf Le.zero) = l := by rw [hlk, Nat.sub_self, List.take_of_length_le (by omega)]; simp
            rw [hll]
            rcases hl : E.loc c0 with _ | g
            · exact (h.val (dOk_lt hd) (x := .tuple #[]) (v := .any) (.conc _ _ (.any _))).congr (fun _ => rfl) (fun k => by
                show lkO ([(c0, Chunk.row v' e' ks l)] ++ s.mem) k = lkO ([] ++ s.mem) k
                rw [List.singleton_append, lkO_cons, List.nil_append]
                split
                · rename_i q; rw [← q, hm]
                · rfl)
            · exact h.storeRow hm hl (fun _ _ => rfl) rfl ⟨rfl, rfl, rfl⟩ hrow (dOk_lt hd) (.conc _ _ (.any _))
          obtain ⟨t1, ⟨t2, xs, t3, t4⟩ | ⟨z1, z2, ad0, z3⟩⟩ := id hrow
          rotate_left
          · have hl0 : l.length = 0 := by rw [z1]; rfl
            exact nothing (ad := ad0) (cap := 0) (by rw [z3, hl0]) (by omega)
          rcases t3.2 with ⟨q1, q2⟩ | ⟨g, cap, cur, c1, c2, c3, c4, c5, c6, c7⟩
          · exact nothing (ad := none) (cap := 0) (by rw [q1, q2]) (by omega)
          · by_cases hlk : l.length = k
            · exact nothing c1 hlk
            have hl : E.loc c0 = some g := by rw [t2, c1]; rfl
            have hx0 := hxe _ _ _ c1
            rw [if_neg (by omega)] at hx0
            have hzs : z.cells.size = ks.length := i5
            have hlen2 : (Builtin.zeroCells z.cells (l.length - k)).toList.length = (l.length - k) * ks.length := by simp [Builtin.zeroCells, hzs]
            have hcap : l.length * ks.length ≤ cur.size := by rw [c6]; exact Nat.mul_le_mul_right _ c4
            have hsum : k * ks.length + (l.length - k) * ks.length = l.length * ks.length := by rw [← Nat.add_mul]; congr 1; omega
            have zget : ∀ i j, i < l.length - k → j < ks.length → (Builtin.zeroCells z.cells (l.length - k)).toList.getD (i * ks.length + j) undef = z.cells.getD j undef := fun i j hi hj => by
              have := made_getD (z := z.cells) (n := l.length - k) (i := i) (j := j) (by omega) hi (by omega)
              unfold madeCells at this
              unfold Builtin.zeroCells
              rw [← hzs]
              exact this
            have h1c : ∀ v ∈ (Builtin.zeroCells z.cells (l.length - k)).toList, v.oneCell' = true := fun v hv => by
              obtain ⟨i, hi⟩ := List.getElem?_of_mem hv
              have hlt := (List.getElem?_eq_some_iff.1 hi).1
              rw [hlen2] at hlt
              have hj : i % ks.length < ks.length := Nat.mod_lt _ p6
              have hi2 : i / ks.length < l.length - k := Nat.div_lt_of_lt_mul (by rw [Nat.mul_comm]; exact hlt)
              have := zget _ _ hi2 hj
              rw [Nat.mul_comm, Nat.div_add_mod, List.getD_eq_getElem?_getD, hi] at this
              have this : v = z.cells.getD (i % ks.length) undef := this
              rw [this]
              exact kOk_one (plainK_get p5 _ hj) (kB_ok7 (k2 _ hj)).1 (i7 E.I w _)
            have hst := run_storeCells_at P g (k * ks.length) e' (Builtin.zeroCells z.cells (l.length - k)).toList 0 cur w c3 (by rw [hlen2]; omega) h1c
            generalize hcu : (cur.toList.take (k * ks.length + 0) ++ (Builtin.zeroCells z.cells (l.length - k)).toList ++ cur.toList.drop (k * ks.length + 0 + (Builtin.zeroCells z.cells (l.length - k)).toList.length)).toArray = cur' at hst
            have hrun := run (x' := .tuple #[]) (w' := w.setRow g cur') (by
              rw [hx0]
              obtain ⟨m, hm'⟩ : ∃ m, l.length - k = m + 1 := ⟨l.length - k - 1, by omega⟩
              have hzv : (zeroValue et).run P w = .ok z w := run_zero i1 i4 w
              have hadd : (Addr.add ⟨g, 0, none⟩ (k * ks.length)) = ⟨g, k * ks.length, none⟩ := by rw [addr_add, Nat.zero_add]
              rw [hm'] at hst ⊢
              simp [Builtin.clear_, run_underlying h1, hzv, hadd, hst])
            have hcs : cur'.size = cur.size := by rw [← hcu]; simp only [List.size_toArray, List.length_append, List.length_take, List.length_drop, Array.length_toList, hlen2]; omega
            have hheap := setRow_heap w g cur cur' e' (0, 0) c3
            have hI : ∀ k, E.I k → (w.setRow g cur').heap[k]? = w.heap[k]? := fun k hk => setRow_other _ _ _ _ (fun e => (h.loc c0 g hl).2.1 (e ▸ hk))
            have hgd : ∀ j, cur'.getD j undef = if k * ks.length ≤ j ∧ j < l.length * ks.length then (Builtin.zeroCells z.cells (l.length - k)).toList.getD (j - k * ks.length) undef else cur.getD j undef := fun j => by
              have := storeRow_getD cur (Builtin.zeroCells z.cells (l.length - k)) (k * ks.length) j (by rw [← Array.length_toList, hlen2]; omega)
              rw [← Array.length_toList, hlen2, hsum] at this
              simp only [Nat.add_zero, hlen2, hsum] at hcu
              rw [hcu] at this
              rw [this]
              simp only [Array.getD_eq_getD_getElem?, List.getD_eq_getElem?_getD, Array.getElem?_toList]
            have hll : (l.take k ++ List.replicate (l.length - k) (elOf Le.zero)).length = l.length := by
              simp only [List.length_append, List.length_take, List.length_replicate]; omega
            have hget : ∀ i, i < l.length → (l.take k ++ List.replicate (l.length - k) (elOf Le.zero)).getD i .any = if i < k then l.getD i .any else elOf Le.zero := fun i hi => by
              simp only [List.getD_eq_getElem?_getD, List.getElem?_append, List.length_take, List.getElem?_take, List.getElem?_replicate]
              rw [show min k l.length = k by omega]
              by_cases hik : i < k
              · rw [if_pos hik, if_pos hik, if_pos hik]
              · rw [if_neg hik, if_neg hik, if_pos (by omega)]; rfl
            unfold Oper.wp
            rw [hrun]
            refine hK E _ _ (h.storeRow hm hl (fun k hk => setRow_other _ _ _ _ hk) (by simp [World.setRow]) ⟨rfl, rfl, rfl⟩ ⟨fun v hv => ?_, .inl ⟨t2, (cur'.toList.take (l.length * ks.length)), ⟨?_, .inr ⟨g, cap, cur', ?_, c2, hheap, ?_, c5, by rw [hcs]; exact c6, ?_⟩⟩, fun i j hi hj => ?_⟩⟩ (dOk_lt hd) (.conc _ _ (.any _)))
            · rcases List.mem_append.1 hv with hv | hv
              · exact t1 _ (List.mem_of_mem_take hv)
              · have := List.eq_of_mem_replicate hv
                subst this
                exact ⟨by rw [hel, i6], fun j hj => by rw [hel]; exact (kB_ok7 (k2 j hj)).1⟩
            · rw [hll]; simp only [List.length_take, Array.length_toList]; omega
            · rw [hll, c1]
            · rw [hll]; exact c4
            · rw [hll]
            · rw [hll] at hi
              have hlt : i * ks.length + j < l.length * ks.length := by
                have : (i + 1) * ks.length ≤ l.length * ks.length := Nat.mul_le_mul_right _ hi
                rw [Nat.add_mul, Nat.one_mul] at this
                omega
              have g1 : (cur'.toList.take (l.length * ks.length)).getD (i * ks.length + j) undef = cur'.getD (i * ks.length + j) undef := by
                rw [List.getD_eq_getElem?_getD, List.getElem?_take, if_pos hlt, Array.getD_eq_getD_getElem?, Array.getElem?_toList]
              have g2 : xs.getD (i * ks.length + j) undef = cur.getD (i * ks.length + j) undef := by
                rw [← c7, List.getD_eq_getElem?_getD, List.getElem?_take, if_pos hlt, Array.getD_eq_getD_getElem?, Array.getElem?_toList]
              have hold := t4 i j hi hj
              rw [g2] at hold
              rw [g1, hgd]
              unfold elCell
              rw [hget i hi]
              by_cases hik : i < k
              · have hlt2 : i * ks.length + j < k * ks.length := by
                  have : (i + 1) * ks.length ≤ k * ks.length := Nat.mul_le_mul_right _ hik
                  rw [Nat.add_mul, Nat.one_mul] at this
                  omega
                rw [if_pos hik, if_neg (by omega)]
                exact hold.mono (fun _ h => h) hI
              · have hge : k * ks.length ≤ i * ks.length := Nat.mul_le_mul_right _ (by omega)
                rw [if_neg hik, if_pos ⟨by omega, hlt⟩, hel]
                have : i * ks.length + j - k * ks.length = (i - k) * ks.length + j := by rw [Nat.sub_mul]; omega
                rw [this, zget _ _ (by omega) hj]
                exact (i7 _ _ j)
      · exact hob.elim
    · exact hob.elim
  · exact hob.elim

/-- Every operation does what the executor says. -/
theorem sound_op (hP : CxOk P cx) (o : Oper) : Sound cx P o := by
  cases ho : o.op with
  | move y => exact sound_move ho
  | assign y => exact sound_assign ho
  | pick c x y => exact sound_pick ho
  | alloc t => exact sound_alloc hP ho
  | box t y => exact sound_box ho
  | build t ps => exact sound_build hP ho
  | buildSlice t n ps => exact sound_buildSlice hP ho
  | load t y => exact sound_load hP ho
  | store t y z => exact sound_store hP ho
  | fieldAddr t y f => exact sound_fieldAddr hP ho
  | indexAddr t y z => exact sound_indexAddr hP ho
  | index t y z => exact sound_index hP ho
  | field t y f => exact sound_field hP ho
  | binOp op t y z t2 => exact sound_binOp hP ho
  | unOp op t y => exact sound_unOp ho
  | convert t d y => exact sound_convert hP ho
  | extract y i => exact sound_extract ho
  | nilCheck y => exact sound_nilCheck ho
  | makeFunc f first caps => exact sound_makeFunc ho
  | makeSlice t len cap => exact sound_makeSlice hP ho
  | makeMap t r =>
    cases r with
    | none => exact sound_makeMap hP ho
    | some r => intro B M I0 G w0 E s a w K Q h hd hob hK; simp [opx, ho, opE, Eff.bad, obH] at hob
  | lookup t y z ok => exact sound_lookup hP ho
  | mapUpdate t y z u => exact sound_put hP (.inl ho)
  | insert t y z u => exact sound_put hP (.inr ho)
  | mapEntry t y z => exact sound_entMap hP ho
  | entryStore t y z u => exact sound_stoMap ho
  | range t y => exact sound_range hP ho
  | entry y => exact sound_itMap ho
  | slice t y lo hi mx =>
    cases mx with
    | none => exact sound_slice hP ho
    | some m =>
      cases lo with
      | some l => intro B M I0 G w0 E s a w K Q h hd hob hK; simp [opx, ho, opE, Eff.bad, obH] at hob
      | none =>
        cases hi with
        | none => intro B M I0 G w0 E s a w K Q h hd hob hK; simp [opx, ho, opE, Eff.bad, obH] at hob
        | some h => exact sound_slice3 hP ho
  | call c =>
    cases hc : c.callee with
    | value f => exact sound_call hP ho hc
    | builtin b =>
      by_cases h1 : b = .len
      · subst h1; exact sound_len hP ho hc
      · by_cases h2 : b = .min
        · subst h2; exact sound_min ho hc
        · by_cases h3 : b = .max
          · subst h3; exact sound_max ho hc
          · by_cases h4 : b = .append
            · subst h4; exact sound_append hP ho hc
            · by_cases h5 : b = .complex
              · subst h5; exact sound_complex ho hc
              by_cases h6 : b = .real
              · subst h6; exact sound_real ho hc
              by_cases h7 : b = .imag
              · subst h7; exact sound_imag ho hc
              by_cases h9 : b = .delete
              · subst h9; exact sound_delete hP ho hc
              by_cases h10 : b = .clear
              · subst h10; exact sound_clear hP ho hc
              by_cases h8 : b = .copy
              · subst h8; exact sound_copy hP ho hc
              intro B M I0 G w0 E s a w K Q h hd hob hK
              cases b <;> first | exact absurd rfl h1 | exact absurd rfl h2 | exact absurd rfl h3 | exact absurd rfl h4 | exact absurd rfl h5 | exact absurd rfl h6 | exact absurd rfl h7 | exact absurd rfl h8 | exact absurd rfl h9 | exact absurd rfl h10 | (simp [opx, ho, opE, hc, builtinOf, Eff.bad, obH] at hob)
    | invoke r m => intro B M I0 G w0 E s a w K Q h hd hob hK; simp [opx, ho, opE, hc, Eff.bad, obH] at hob
  | _ => intro B M I0 G w0 E s a w K Q h hd hob hK; simp [opx, ho, opE, Eff.bad, obH] at hob
end
end Go.Rx

