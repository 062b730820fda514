/- The framework, part 15: conversions; every operation does what the executor says. -/
import Derived.Test.YtnfngikfpajhgaaDoorFw14
namespace Go.Rx
set_option linter.unusedSectionVars false
open Go.RowKit

section
variable {cx : Cx} {P : Program} [Laid P] {o : Oper}

theorem bytes_fold : ∀ (ns : List Int) (b : ByteArray), (ns.foldl (fun r n => r.push (UInt8.ofNat n.toNat)) b).data.toList = b.data.toList ++ ns.map fun n => UInt8.ofNat n.toNat
  | [], b => by simp
  | n :: r, b => by
    rw [List.foldl_cons, bytes_fold r]
    simp [ByteArray.push]

theorem sound_convert (hP : CxOk P cx) {t d : Nat} {y : Operand} (ho : o.op = .convert t d y) : Sound cx P o := by
  intro B M I0 w0 E s a w K Q h hd hob hK
  have e : opx cx s.mem (ev s.tm) o = convOf cx s.mem t d (ev s.tm y) := by simp [opx, ho, opE]
  rw [e] at hob hK
  unfold convOf at hob hK
  have hy := h.eval y
  cases hs : tyOf cx t with
  | none => simp only [hs] at hob; exact hob.elim
  | some S =>
    cases ht : tyOf cx d with
    | none => simp only [hs, ht] at hob; exact hob.elim
    | some L =>
      obtain ⟨ds, s1, s2⟩ := (tyRun hP hs).desc
      obtain ⟨dd, d1, d2⟩ := (tyRun hP ht).desc
      simp only [hs, ht] at hob hK
      cases hk : L.k <;> simp only [hk] at hob hK d2 <;> try exact hob.elim
      · rename_i k'
        have := TkOk_int d2
        subst this
        cases hv : ev s.tm y <;> simp only [hv] at hob hK <;> try exact hob.elim
        rename_i k n
        rw [hv] at hy
        refine op_val h hd (x := .int k' (k'.wrap n)) ?_ (.conc _ _ (.int _ _)) hK
        simp [execOp, ho, convert, run_underlying s1, run_underlying d1, hy.inv_int, Conv.intToInt]
      · have := TkOk_str d2
        subst this
        cases hsk : S.k <;> simp only [hsk] at hob hK s2 <;> try exact hob.elim
        · have := TkOk_str s2
          subst this
          cases hv : ev s.tm y <;> simp only [hv] at hob hK <;> try exact hob.elim
          rename_i l
          rw [hv] at hy
          obtain ⟨b, e1, e2⟩ := hy.inv_str
          refine op_val h hd (x := .string b) ?_ (.conc _ _ (.str _ _ e2)) hK
          simp [execOp, ho, convert, run_underlying s1, run_underlying d1, e1]
        · rename_i et
          have := TkOk_sl s2
          subst this
          cases hte : tyOf cx et with
          | none => simp only [hte] at hob; exact hob.elim
          | some Le =>
            obtain ⟨de, e1, e2⟩ := (tyRun hP hte).desc
            simp only [hte] at hob hK
            cases hr : rowOf s.mem (ev s.tm y) with
            | none => simp only [hr] at hob; exact hob.elim
            | some r =>
              obtain ⟨ks, l, rd⟩ := r
              simp only [hr] at hob hK
              cases hek : Le.k <;> simp only [hek] at hob hK e2 <;> try exact hob.elim
              rename_i k
              cases hk1 : decide (k = .u8) <;> cases hk2 : cksEq ks [.int .u8] <;> simp only [hk1, hk2] at hob hK <;> try exact hob.elim
              have hk1 := of_decide_eq_true hk1
              have hk2 := cksEq_eq _ _ hk2
              subst hk1 hk2
              have := TkOk_int e2
              subst this
              obtain ⟨hsh, hcase⟩ := rowOf_cells h.ch hy hr
              have hconv : ∀ {v : Value} {x : Value}, (∀ n, x ≠ .int .u8 n) → (match x with | .slice _ _ _ => True | _ => False) → (Conv.bytesToString x).run P w = .ok v w → a.eval y = x → (execOp a.eval o).run P w = .ok (.value v) w := by
                intro v x _ hx hv ex
                cases x <;> first | exact hx.elim | skip
                simp [execOp, ho, convert, run_underlying s1, run_underlying d1, run_underlying e1, ex, hv]
              -- each byte
              have hbyte : ∀ i, i < l.length → ∃ n : Int, elCell l i 0 = .int .u8 n := fun i hi => by
                have := shOk_get hsh hi (j := 0) (by simp)
                exact this
              rcases hcase with ⟨ey, el⟩ | ⟨el, ad, cap, ey⟩ | ⟨b, off, cap, f, ey, hf⟩
              · subst el
                exact op_val h hd (hconv (v := .string .empty) (by simp) trivial (by simp [Conv.bytesToString]) ey) (.conc _ _ (.str _ _ rfl)) hK
              · subst el
                cases ad with
                | none => exact op_val h hd (hconv (v := .string .empty) (by simp) trivial (by simp [Conv.bytesToString]) ey) (.conc _ _ (.str _ _ rfl)) hK
                | some ad =>
                  have := run_bytesToString (P := P) w ad 0 cap [] (by simp [loadCells, loadCellsFrom])
                  exact op_val h hd (hconv (by simp) trivial this ey) (.conc _ _ (.str _ _ rfl)) hK
              · have hlc : (loadCells ⟨b, off, none⟩ l.length).run P w = .ok ((l.map fun v => (v.cells.getD 0 .any).toInt).map (Value.int .u8)).toArray w := by
                  rw [run_loadCells w ⟨b, off, none⟩ l.length (fun i => f i 0) (fun i hi => by
                    have := (hf i 0 hi (by simp)).1
                    simpa [addr_add] using this)]
                  congr 2
                  apply List.ext_getElem
                  · simp
                  · intro i h1 h2
                    have hi : i < l.length := by simpa using h1
                    obtain ⟨n, hn⟩ := hbyte i hi
                    have hc := (hf i 0 hi (by simp)).2
                    rw [hn] at hc
                    have hfi : f i 0 = .int .u8 n := (CV.conc (E := E) (m := lkO s.mem) _ _ hc).inv_int
                    have hel : (l[i].cells.getD 0 .any) = .int .u8 n := by
                      rw [← hn]
                      simp [elCell, List.getD_eq_getElem?_getD, hi]
                    simp only [List.getElem_map, List.getElem_range, hfi, hel, SV.toInt]
                refine op_val h hd (hconv (by simp) trivial (run_bytesToString (P := P) w _ l.length cap _ hlc) ey) (.conc _ _ (.str _ _ ?_)) hK
                rw [bytes_fold]
                simp [bytesOf]

/-- A look whether a pointer is nil. -/
theorem sound_nilCheck {y : Operand} (ho : o.op = .nilCheck y) : Sound cx P o := by
  intro B M I0 w0 E s a w K Q h hd hob hK
  have e : opx cx s.mem (ev s.tm) o = opE cx s.mem (ev s.tm) o.dst (.nilCheck y) := by simp [opx, ho]
  rw [e] at hob hK
  simp only [opE] at hob hK
  have hy := h.eval y
  split at hob
  · rename_i c off hv
    rw [hv] at hy hK
    obtain ⟨b, t, cs, e1, e2⟩ := hy.inv_ptr
    refine op_val h hd (x := a.eval y) ?_ hy hK
    simp only [execOp, ho, e1]
    rfl
  · rename_i ks l i off hv
    rw [hv] at hy hK
    obtain ⟨b, p, e1, _⟩ := ep_add hy.inv_ep
    refine op_val h hd (x := a.eval y) ?_ hy hK
    simp only [execOp, ho, e1]
    rfl
  · rename_i b ks l i off hv
    rw [hv] at hy hK
    have hb : b = true := hob.out
    have q3 := (oep_inv hy.inv_oep).2 hb
    obtain ⟨b', p, e1, _⟩ := ep_add q3
    refine op_val h hd (x := a.eval y) ?_ (.conc _ _ q3) hK
    simp only [execOp, ho, e1]
    rfl
  · exact hob.elim

/-- Every operation does what the executor says. -/
theorem sound_op (hP : CxOk P cx) (o : Oper) : Sound cx P o := by
  cases ho : o.op with
  | move y => exact sound_move ho
  | assign y => exact sound_assign ho
  | pick c x y => exact sound_pick ho
  | alloc t => exact sound_alloc hP ho
  | box t y => exact sound_box ho
  | build t ps => exact sound_build hP ho
  | buildSlice t n ps => exact sound_buildSlice hP ho
  | load t y => exact sound_load hP ho
  | store t y z => exact sound_store hP ho
  | fieldAddr t y f => exact sound_fieldAddr hP ho
  | indexAddr t y z => exact sound_indexAddr hP ho
  | index t y z => exact sound_index hP ho
  | field t y f => exact sound_field hP ho
  | binOp op t y z t2 => exact sound_binOp hP ho
  | unOp op t y => exact sound_unOp ho
  | convert t d y => exact sound_convert hP ho
  | extract y i => exact sound_extract ho
  | nilCheck y => exact sound_nilCheck ho
  | slice t y lo hi mx =>
    cases mx with
    | none => exact sound_slice hP ho
    | some m => intro B M I0 w0 E s a w K Q h hd hob hK; simp [opx, ho, opE, Eff.bad, obH] at hob
  | call c =>
    cases hc : c.callee with
    | value f => exact sound_call hP ho hc
    | builtin b =>
      by_cases h1 : b = .len
      · subst h1; exact sound_len hP ho hc
      · by_cases h2 : b = .min
        · subst h2; exact sound_min ho hc
        · by_cases h3 : b = .max
          · subst h3; exact sound_max ho hc
          · by_cases h4 : b = .append
            · subst h4; exact sound_append hP ho hc
            · intro B M I0 w0 E s a w K Q h hd hob hK
              cases b <;> first | exact absurd rfl h1 | exact absurd rfl h2 | exact absurd rfl h3 | exact absurd rfl h4 | (simp [opx, ho, opE, hc, builtinOf, Eff.bad, obH] at hob)
    | invoke r m => intro B M I0 w0 E s a w K Q h hd hob hK; simp [opx, ho, opE, hc, Eff.bad, obH] at hob
  | _ => intro B M I0 w0 E s a w K Q h hd hob hK; simp [opx, ho, opE, Eff.bad, obH] at hob
end
end Go.Rx
