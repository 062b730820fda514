/- The framework, part 8: indexes, arithmetic, comparisons, conversions. -/
import Derived.Test.YtkmiakgpkgmcbaaFw7
namespace Go.Rx
set_option linter.unusedSectionVars false
open Go.RowKit

section
variable {cx : Cx} {P : Program} [Laid P] {B : Nat} {M I0 : Nat → Prop} {G : Nat → Value} {w0 : World} {E : Env} {s : St} {a : Act} {w : World} {o : Oper} {K : Act → World → Prop} {Q : Exit → Act → World → Prop}

theorem sl_ep {I : Nat → Prop} {x : Value} {ks : List CK} {l : List SV} (h : Conc I w x (.sl ks l)) (i : Nat) (hi : i < l.length) : ∃ b p cap, x = .slice (some ⟨b, p, none⟩) l.length cap ∧ Conc I w (.pointer (some ⟨b, p + i * ks.length, none⟩)) (.ep ks l i 0) := by
  cases h with
  | sl0 => simp at hi
  | sl b off cap _ _ x hb hc hsh hx hxc => exact ⟨b, off, cap, rfl, .ep b off ks l i 0 x hb hi hsh hx hxc⟩

theorem sl_len {I : Nat → Prop} {x : Value} {ks : List CK} {l : List SV} (h : Conc I w x (.sl ks l)) : ∃ ad cap, x = .slice ad l.length cap ∧ l.length ≤ cap + l.length := by
  cases h with
  | sl0 a cap => exact ⟨a, cap, rfl, by omega⟩
  | sl b off cap _ _ x hb hc hsh hx hxc => exact ⟨_, cap, rfl, by omega⟩

theorem sound_indexAddr (hP : CxOk P cx) {t : Nat} {y z : Operand} (ho : o.op = .indexAddr t y z) : Sound cx P o := by
  intro B M I0 G w0 E s a w K Q h hd hob hK
  have e : opx cx s.mem (ev s.tm) o = opE cx s.mem (ev s.tm) o.dst (.indexAddr t y z) := by simp [opx, ho]
  rw [e] at hob hK
  simp only [opE] at hob hK
  have hy := h.eval y
  have hz := h.eval z
  cases hi : ev s.tm z <;> cases hv : ev s.tm y <;> simp only [hi, hv] at hob hK <;> try exact hob.elim
  · rename_i k n c off
    rw [hi] at hz
    rw [hv] at hy
    cases ht : tyOf cx t with
    | none => rw [ht] at hob; exact hob.elim
    | some L =>
      obtain ⟨d, h1, h2⟩ := (tyRun hP ht).desc
      simp only [ht] at hob hK
      cases hk : L.k with
      | arr len e =>
        simp only [hk] at hob hK h2
        have := TkOk_arr h2
        subst this
        cases he : tyOf cx e with
        | none => rw [he] at hob; exact hob.elim
        | some Le =>
          obtain ⟨inf, zv, i1, i2, _⟩ := (tyRun hP he).info
          simp only [he] at hob hK
          obtain ⟨b, bt, cs, e1, hm, hl⟩ := hy.inv_ptr
          cases hlit : cx.lit with
          | false =>
            simp only [hlit] at hob hK
            obtain ⟨⟨hn0, hn1⟩⟩ := hob
            refine op_val h hd (x := .pointer (some ⟨b, off + n.toNat * Le.ks.length, none⟩)) ?_ (.ptx c _ b bt cs hm hl) hK
            simp [execOp, ho, Instr.indexAt, hz.inv_int, asIntOf, run_underlying h1, e1, Instr.sureAddr, hn0, hn1, run_size i1, i2, addr_add]
          | true =>
            simp only [hlit] at hob hK
            obtain ⟨⟨hn0, hn1⟩⟩ := hob
            refine op_val h hd (x := .pointer (some ⟨b, off + n.toNat * Le.ks.length, none⟩)) ?_ (.ptr c _ b bt cs hm hl) hK
            simp [execOp, ho, Instr.indexAt, hz.inv_int, asIntOf, run_underlying h1, e1, Instr.sureAddr, hn0, hn1, run_size i1, i2, addr_add]
      | _ => simp only [hk] at hob; exact hob.elim
  · rename_i k n c ver
    rw [hi] at hz
    rw [hv] at hy
    cases ht : tyOf cx t with
    | none => rw [ht] at hob; exact hob.elim
    | some L =>
      obtain ⟨d, h1, h2⟩ := (tyRun hP ht).desc
      simp only [ht] at hob hK
      cases hk : L.k with
      | sl e =>
        simp only [hk] at hob hK h2
        have := TkOk_sl h2
        subst this
        cases he : tyOf cx e with
        | none => rw [he] at hob; exact hob.elim
        | some Le =>
          obtain ⟨inf, zv, i1, i2, _⟩ := (tyRun hP he).info
          simp only [he] at hob hK
          obtain ⟨v', e1, e2⟩ := hy.inv_osl
          cases hm : lkO s.mem c with
          | none => simp only [hm] at hob; exact hob.elim
          | some ch =>
            have hch := h.ch c
            rw [hm] at hch
            have e1' := e1
            rw [hm] at e1
            cases ch with
            | box => simp only [hm] at hob; exact hob.elim
            | gh => simp only [hm] at hob; exact hob.elim
            | mp => simp only [hm] at hob; exact hob.elim
            | it => simp only [hm] at hob; exact hob.elim
            | row v e' ks l =>
              simp only [hm] at hob hK
              cases hq : (Nat.beq v ver && Nat.beq Le.ks.length ks.length) with
              | false => simp only [hq] at hob; exact hob.elim
              | true =>
                simp only [hq] at hob hK
                simp only [Bool.and_eq_true] at hq
                obtain ⟨q1, q2⟩ := hq
                have q1 := Nat.eq_of_beq_eq_true q1
                have q2 := Nat.eq_of_beq_eq_true q2
                obtain ⟨⟨hn0, hn1⟩⟩ := hob
                simp only [verOf, Option.some.injEq] at e1
                have hrow : RowR E w c e' ks l := hch
                obtain ⟨g, cap, hl, hcv, _⟩ := hrow.cells (by omega)
                have hx := e2 (by omega)
                rw [hcv] at hx
                refine op_val h hd (x := .pointer (some ⟨g, n.toNat * ks.length, none⟩)) ?_ (.rptr _ c ks.length n.toNat 0 ver v' e1' (by omega) (fun _ b hb => ?_)) hK
                · simp [execOp, ho, Instr.indexAt, hz.inv_int, asIntOf, run_underlying h1, hx, hn0, hn1, run_size i1, i2, q2, addr_add]
                · rw [hl] at hb
                  cases hb
                  rw [Nat.add_zero]
            | froz v ks l =>
              simp only [hm] at hob hK
              cases hq : (Nat.beq v ver && Nat.beq Le.ks.length ks.length) with
              | false => simp only [hq] at hob; exact hob.elim
              | true =>
                simp only [hq] at hob hK
                simp only [Bool.and_eq_true] at hq
                obtain ⟨q1, q2⟩ := hq
                have q1 := Nat.eq_of_beq_eq_true q1
                have hq' := Nat.eq_of_beq_eq_true q2
                obtain ⟨⟨hn0, hn1⟩⟩ := hob
                simp only [verOf, Option.some.injEq] at e1
                have hx := e2 (by omega)
                have hcon : Conc E.I w (E.cv c) (.sl ks l) := hch
                obtain ⟨b, p, cap, e4, hep⟩ := sl_ep hcon n.toNat (by omega)
                rw [e4] at hx
                refine op_val h hd (x := .pointer (some ⟨b, p + n.toNat * ks.length, none⟩)) ?_ (.conc _ _ hep) hK
                simp [execOp, ho, Instr.indexAt, hz.inv_int, asIntOf, run_underlying h1, hx, hn0, hn1, run_size i1, i2, hq', addr_add]
      | _ => simp only [hk] at hob; exact hob.elim
  · rename_i k n ks l
    rw [hi] at hz
    rw [hv] at hy
    cases ht : tyOf cx t with
    | none => rw [ht] at hob; exact hob.elim
    | some L =>
      obtain ⟨d, h1, h2⟩ := (tyRun hP ht).desc
      simp only [ht] at hob hK
      cases hk : L.k with
      | sl e =>
        simp only [hk] at hob hK h2
        have := TkOk_sl h2
        subst this
        cases he : tyOf cx e with
        | none => rw [he] at hob; exact hob.elim
        | some Le =>
          obtain ⟨inf, zv, i1, i2, _⟩ := (tyRun hP he).info
          simp only [he] at hob hK
          cases hq : Nat.beq Le.ks.length ks.length with
          | false => simp only [hq] at hob; exact hob.elim
          | true =>
            simp only [hq] at hob hK
            have hq' := Nat.eq_of_beq_eq_true hq
            obtain ⟨⟨hn0, hn1⟩⟩ := hob
            obtain ⟨b, p, cap, e1, hep⟩ := sl_ep hy.inv_sl n.toNat (by omega)
            refine op_val h hd (x := .pointer (some ⟨b, p + n.toNat * ks.length, none⟩)) ?_ (.conc _ _ hep) hK
            simp [execOp, ho, Instr.indexAt, hz.inv_int, asIntOf, run_underlying h1, e1, hn0, hn1, run_size i1, i2, hq', addr_add]
      | _ => simp only [hk] at hob; exact hob.elim

/-- A part of a struct or an array that is at hand. -/
theorem run_part' {t : Nat} {L : TyL} (h : TyOk P t L) (xs : Array Value) (off : Nat) (hn : off + L.ks.length ≤ xs.size) (w : World) :
    (part t xs off).run P w = .ok (match L.k.agg with | true => .agg ((List.range L.ks.length).map fun j => xs.getD (off + j) undef).toArray | false => xs.getD off undef) w := by
  obtain ⟨inf, z, h1, h2, _⟩ := h.info
  unfold part
  rw [Sem.run_bind, run_isAgg h, Result.andThen_ok]
  cases hk : L.k.agg with
  | true =>
    simp only [if_true, Sem.run_bind, run_size h1, Result.andThen_ok, Sem.run_pure, h2]
    congr 2
    apply Array.ext
    · simp; omega
    · intro i h1 h2
      simp at h1 h2
      simp [Array.getD_eq_getD_getElem?]
      rw [Array.getElem?_eq_getElem (by omega)]
      simp
  | false =>
    have h3 := h.one hk
    have : xs[off]? = some (xs.getD off undef) := by
      rw [Array.getElem?_eq_getElem (by omega)]
      simp [Array.getD_eq_getD_getElem?, Array.getElem?_eq_getElem (show off < xs.size by omega)]
    rw [if_neg (by simp), this]
    rfl

theorem ba_get (b : ByteArray) (i : Nat) (h : i < b.data.toList.length) : b[i]? = some (b.data.toList.getD i 0) := by
  have h' : i < b.size := by simpa using h
  rw [getElem?_pos b i h']
  simp only [List.getD_eq_getElem?_getD, List.getElem?_eq_getElem h, Option.getD_some]
  rfl

/-- A field of a value. -/
theorem sound_field (hP : CxOk P cx) {t f : Nat} {y : Operand} (ho : o.op = .field t y f) : Sound cx P o := by
  intro B M I0 G w0 E s a w K Q h hd hob hK
  have e : opx cx s.mem (ev s.tm) o = opE cx s.mem (ev s.tm) o.dst (.field t y f) := by simp [opx, ho]
  rw [e] at hob hK
  simp only [opE] at hob hK
  have hy := h.eval y
  cases hv : ev s.tm y <;> simp only [hv] at hob hK <;> try exact hob.elim
  rename_i cs
  rw [hv] at hy
  cases ht : tyOf cx t with
  | none => rw [ht] at hob; exact hob.elim
  | some L =>
    obtain ⟨d, h1, h2⟩ := (tyRun hP ht).desc
    simp only [ht] at hob hK
    cases hk : L.k <;> simp only [hk] at hob hK h2 <;> try exact hob.elim
    rename_i fl
    obtain ⟨fs, rfl, h3, h4⟩ := TkOk_struct h2
    cases hq : fl[f]? with
    | none => rw [hq] at hob; exact hob.elim
    | some pr =>
      obtain ⟨fo, ft⟩ := pr
      simp only [hq] at hob hK
      cases he : tyOf cx ft with
      | none => rw [he] at hob; exact hob.elim
      | some Lf =>
        have hLe := tyRun hP he
        simp only [he] at hob hK
        obtain ⟨xs, e1, e2, e3⟩ := hy.inv_agg
        cases hb : Nat.ble (fo + Lf.ks.length) cs.length with
        | false => simp only [hb] at hob; exact hob.elim
        | true =>
          simp only [hb] at hob hK
          have hn2 := Nat.le_of_ble_eq_true hb
          have hlt : f < fs.size := by have := (List.getElem?_eq_some_iff.1 hq).1; omega
          have hfs : fs[f]? = some fs[f] := Array.getElem?_eq_getElem hlt
          obtain ⟨h5, inf, h6, h7⟩ := h4 f _ hfs
          rw [hq] at h5
          simp only [Option.some.injEq, Prod.mk.injEq] at h5
          refine op_val h hd ?_ (ldAt_cv (f := fun j => xs.getD (fo + j) undef) hLe hn2 (fun j _ => e3 _)) hK
          simp only [execOp, ho, Instr.field, Sem.run_bind, Sem.run_pure, Result.andThen_ok, run_underlying h1, e1, hfs, asAgg, ← h5.1, ← h5.2]
          rw [run_part' hLe xs _ (by omega)]
          rfl

theorem sound_index (hP : CxOk P cx) {t : Nat} {y z : Operand} (ho : o.op = .index t y z) : Sound cx P o := by
  intro B M I0 G w0 E s a w K Q h hd hob hK
  have e : opx cx s.mem (ev s.tm) o = opE cx s.mem (ev s.tm) o.dst (.index t y z) := by simp [opx, ho]
  rw [e] at hob hK
  simp only [opE] at hob hK
  have hy := h.eval y
  have hz := h.eval z
  cases hi : ev s.tm z <;> cases hv : ev s.tm y <;> simp only [hi, hv] at hob hK <;> try exact hob.elim
  · rename_i k n l
    rw [hi] at hz
    rw [hv] at hy
    cases ht : tyOf cx t with
    | none => rw [ht] at hob; exact hob.elim
    | some L =>
      obtain ⟨d, h1, h2⟩ := (tyRun hP ht).desc
      simp only [ht] at hob hK
      cases hk : L.k <;> simp only [hk] at hob hK h2 <;> try exact hob.elim
      have := TkOk_str h2
      subst this
      obtain ⟨⟨hn0, hn1⟩⟩ := hob
      obtain ⟨b, e1, e2⟩ := hy.inv_str
      refine op_val h hd (x := .int .u8 (l.getD n.toNat 0).toNat) ?_ (.conc _ _ (.int _ _)) hK
      have hb := ba_get b n.toNat (by rw [e2]; omega)
      rw [e2] at hb
      simp only [execOp, ho, Instr.index, hz.inv_int, asIntOf, Sem.run_bind, Sem.run_pure, Result.andThen_ok, run_underlying h1, e1, if_pos hn0, hb]
  · rename_i k n cs
    rw [hi] at hz
    rw [hv] at hy
    cases ht : tyOf cx t with
    | none => rw [ht] at hob; exact hob.elim
    | some L =>
      obtain ⟨d, h1, h2⟩ := (tyRun hP ht).desc
      simp only [ht] at hob hK
      cases hk : L.k <;> simp only [hk] at hob hK h2 <;> try exact hob.elim
      rename_i len e
      have := TkOk_arr h2
      subst this
      cases he : tyOf cx e with
      | none => rw [he] at hob; exact hob.elim
      | some Le =>
        have hLe := tyRun hP he
        obtain ⟨inf, zv, i1, i2, _⟩ := hLe.info
        simp only [he] at hob hK
        obtain ⟨xs, e1, e2, e3⟩ := hy.inv_agg
        cases hlit : cx.lit with
        | false =>
          simp only [hlit] at hob hK
          obtain ⟨⟨hn0, hn1, hn2, hn3⟩⟩ := hob
          refine op_val h hd ?_ (ldBy_cv (f := fun j => xs.getD (n.toNat * Le.ks.length + j) undef) hLe (fun j _ => e3 _) hn3) hK
          simp only [execOp, ho, Instr.index, hz.inv_int, asIntOf, Sem.run_bind, Sem.run_pure, Result.andThen_ok, run_underlying h1, e1, hn0, hn1, and_self, if_true, run_size i1, i2]
          rw [run_part' hLe xs _ (by omega)]
          rfl
        | true =>
          simp only [hlit] at hob hK
          cases hb : Nat.ble (n.toNat * Le.ks.length + Le.ks.length) cs.length with
          | false => simp only [hb] at hob; exact hob.elim
          | true =>
            simp only [hb] at hob hK
            have hn2 := Nat.le_of_ble_eq_true hb
            obtain ⟨⟨hn0, hn1⟩⟩ := hob
            refine op_val h hd ?_ (ldAt_cv (f := fun j => xs.getD (n.toNat * Le.ks.length + j) undef) hLe hn2 (fun j _ => e3 _)) hK
            simp only [execOp, ho, Instr.index, hz.inv_int, asIntOf, Sem.run_bind, Sem.run_pure, Result.andThen_ok, run_underlying h1, e1, hn0, hn1, and_self, if_true, run_size i1, i2]
            rw [run_part' hLe xs _ (by omega)]
            rfl
end
end Go.Rx

