/- The framework, part 12: the other operations. -/
import Derived.Test.YtkmiakgpkgmcbaaFw11
namespace Go.Rx
set_option linter.unusedSectionVars false
open Go.RowKit

section
variable {cx : Cx} {P : Program} [Laid P] {B : Nat} {M I0 : Nat → Prop} {G : Nat → Value} {w0 : World} {E : Env} {s : St} {a : Act} {w : World} {o : Oper} {K : Act → World → Prop} {Q : Exit → Act → World → Prop}

theorem sound_extract {y : Operand} {i : Nat} (ho : o.op = .extract y i) : Sound cx P o := by
  intro B M I0 G w0 E s a w K Q h hd hob hK
  have e : opx cx s.mem (ev s.tm) o = opE cx s.mem (ev s.tm) o.dst (.extract y i) := by simp [opx, ho]
  rw [e] at hob hK
  simp only [opE] at hob hK
  have hy := h.eval y
  cases hv : ev s.tm y <;> simp only [hv] at hob hK <;> try exact hob.elim
  rename_i vs
  rw [hv] at hy
  cases hi : vs[i]? with
  | none => simp only [hi] at hob; exact hob.elim
  | some v =>
    simp only [hi] at hK
    obtain ⟨xs, e1, e2, e3⟩ := hy.inv_tup
    have hlt : i < xs.size := by have := (List.getElem?_eq_some_iff.1 hi).1; omega
    refine op_val h hd (x := xs.getD i undef) ?_ (by have := e3 i; rw [List.getD_eq_getElem?_getD, hi] at this; exact this) hK
    simp [execOp, ho, Instr.extract, e1, Array.getElem?_eq_getElem hlt, Array.getD_eq_getD_getElem?]

theorem sound_unOp {op : UnOp} {t : Nat} {y : Operand} (ho : o.op = .unOp op t y) : Sound cx P o := by
  intro B M I0 G w0 E s a w K Q h hd hob hK
  have e : opx cx s.mem (ev s.tm) o = opE cx s.mem (ev s.tm) o.dst (.unOp op t y) := by simp [opx, ho]
  rw [e] at hob hK
  simp only [opE] at hob hK
  have hy := h.eval y
  split at hob
  · rename_i hv
    rw [hv] at hy hK
    exact op_val h hd (x := .bool false) (by simp [execOp, ho, hy.inv_tt, Op.unary]) (.conc _ _ .ff) hK
  · rename_i hv
    rw [hv] at hy hK
    exact op_val h hd (x := .bool true) (by simp [execOp, ho, hy.inv_ff, Op.unary]) (.conc _ _ .tt) hK
  · rename_i b hv
    rw [hv] at hy hK
    exact op_val h hd (x := .bool (!b)) (by simp [execOp, ho, hy.inv_bool, Op.unary]) (.conc _ _ (.bool _)) hK
  · rename_i k n hv
    rw [hv] at hy hK
    exact op_val h hd (x := .int k (k.wrap (0 - n))) (by simp [execOp, ho, hy.inv_int, Op.unary, Op.intArith]) (.conc _ _ (.int _ _)) hK
  · rename_i b hv
    rw [hv] at hy hK
    exact op_val h hd (x := .float .f64 (fN b)) (by simp [execOp, ho, hy.inv_flt, Op.unary, fN]) (.conc _ _ (.flt _)) hK
  · rename_i a b hv
    rw [hv] at hy hK
    exact op_val h hd (x := .complex .f64 (fN a) (fN b)) (by simp [execOp, ho, hy.inv_cpx, Op.unary, fN]) (.conc _ _ (.cpx _ _)) hK
  · exact hob.elim

/-- A slice, whoever owns it. -/
theorem rowOf_len {m : List (Nat × Chunk)} {x : Value} {v : SV} {ks : List CK} {l : List SV} {rd : List Nat} (hch : ∀ c, ChR E (lkO m) w c (lkO m c)) (h : CV E (lkO m) w x v) (hr : rowOf m v = some (ks, l, rd)) : ∃ ad cap, x = .slice ad l.length cap := by
  cases v <;> simp only [rowOf, reduceCtorEq, Option.some.injEq, Prod.mk.injEq] at hr
  · rename_i c ver
    obtain ⟨v', e1, e2⟩ := h.inv_osl
    have hc := hch c
    cases hm : lkO m c with
    | none => rw [hm] at hr; simp at hr
    | some ch =>
      rw [hm] at hr hc e1
      cases ch with
      | box => simp at hr
      | gh => simp at hr
      | mp => simp at hr
      | it => simp at hr
      | row v2 e0 ks0 l0 =>
        cases hb : Nat.beq v2 ver with
        | false => simp [hb] at hr
        | true =>
          simp only [hb, Option.some.injEq, Prod.mk.injEq] at hr
          obtain ⟨rfl, rfl, rfl⟩ := hr
          simp only [verOf, Option.some.injEq] at e1
          rw [e2 (by have := Nat.eq_of_beq_eq_true hb; omega)]
          exact RowR.isSlice hc
      | froz v2 ks0 l0 =>
        cases hb : Nat.beq v2 ver with
        | false => simp [hb] at hr
        | true =>
          simp only [hb, Option.some.injEq, Prod.mk.injEq] at hr
          obtain ⟨rfl, rfl, rfl⟩ := hr
          simp only [verOf, Option.some.injEq] at e1
          rw [e2 (by have := Nat.eq_of_beq_eq_true hb; omega)]
          obtain ⟨ad, cap, h1, _⟩ := sl_len hc
          exact ⟨ad, cap, h1⟩
  · obtain ⟨rfl, rfl, rfl⟩ := hr
    obtain ⟨ad, cap, h1, _⟩ := sl_len h.inv_sl
    exact ⟨ad, cap, h1⟩
  · obtain ⟨rfl, rfl, rfl⟩ := hr
    exact ⟨none, 0, h.inv_nilsl⟩
  · obtain ⟨rfl, rfl, rfl⟩ := hr
    obtain ⟨ad, e1, _⟩ := h.inv_fsl
    exact ⟨ad, _, e1⟩

/-- .. and its cells. -/
theorem rowOf_cells {m : List (Nat × Chunk)} {x : Value} {v : SV} {ks : List CK} {l : List SV} {rd : List Nat} (hch : ∀ c, ChR E (lkO m) w c (lkO m c)) (h : CV E (lkO m) w x v) (hr : rowOf m v = some (ks, l, rd)) :
    (∀ e, e ∈ l → shOk ks e) ∧ ((x = .slice none 0 0 ∧ l = []) ∨ (l = [] ∧ ∃ ad cap, x = .slice ad 0 cap) ∨ ∃ (b off cap : Nat) (f : Nat → Nat → Value), x = .slice (some ⟨b, off, none⟩) l.length cap ∧
      ∀ i j, i < l.length → j < ks.length → w.cell? ⟨b, off + i * ks.length + j, none⟩ = some (f i j) ∧ Conc E.I w (f i j) (elCell l i j)) := by
  have conc : ∀ {x : Value}, Conc E.I w x (.sl ks l) → (∀ e, e ∈ l → shOk ks e) ∧ ((x = .slice none 0 0 ∧ l = []) ∨ (l = [] ∧ ∃ ad cap, x = .slice ad 0 cap) ∨ ∃ (b off cap : Nat) (f : Nat → Nat → Value), x = .slice (some ⟨b, off, none⟩) l.length cap ∧
      ∀ i j, i < l.length → j < ks.length → w.cell? ⟨b, off + i * ks.length + j, none⟩ = some (f i j) ∧ Conc E.I w (f i j) (elCell l i j)) := by
    intro x hx
    cases hx with
    | sl0 ad cap => exact ⟨fun e he => (by cases he), .inr (.inl ⟨rfl, ad, cap, rfl⟩)⟩
    | sl b off cap _ _ f hb hc hsh hx hxc => exact ⟨hsh, .inr (.inr ⟨b, off, cap, f, rfl, fun i j hi hj => ⟨hx i j hi hj, hxc i j hi hj⟩⟩)⟩
  cases v <;> simp only [rowOf, reduceCtorEq, Option.some.injEq, Prod.mk.injEq] at hr
  · rename_i c ver
    obtain ⟨v', e1, e2⟩ := h.inv_osl
    have hc := hch c
    cases hm : lkO m c with
    | none => rw [hm] at hr; simp at hr
    | some ch =>
      rw [hm] at hr hc e1
      cases ch with
      | box => simp at hr
      | gh => simp at hr
      | mp => simp at hr
      | it => simp at hr
      | row v2 e0 ks0 l0 =>
        cases hb : Nat.beq v2 ver with
        | false => simp [hb] at hr
        | true =>
          simp only [hb, Option.some.injEq, Prod.mk.injEq] at hr
          obtain ⟨rfl, rfl, rfl⟩ := hr
          simp only [verOf, Option.some.injEq] at e1
          rw [e2 (by have := Nat.eq_of_beq_eq_true hb; omega)]
          obtain ⟨h1, ⟨h2, xs, ho, h4⟩ | ⟨q1, _, ad, q2⟩⟩ := hc
          rotate_left
          · exact ⟨h1, .inr (.inl ⟨q1, ad, 0, q2⟩)⟩
          refine ⟨h1, ?_⟩
          rcases ho.2 with ⟨q1, q2⟩ | ⟨g, cap, cur, q1, hg, hh, hn, hmx, hs, ht⟩
          · exact .inl ⟨q1, List.eq_nil_of_length_eq_zero q2⟩
          · refine .inr (.inr ⟨g, 0, cap, fun i j => xs.getD (i * ks0.length + j) undef, q1, fun i j hi hj => ⟨?_, h4 i j hi hj⟩⟩)
            have hlt : i * ks0.length + j < l0.length * ks0.length := by
              have : (i + 1) * ks0.length ≤ l0.length * ks0.length := Nat.mul_le_mul_right _ hi
              rw [Nat.add_mul, Nat.one_mul] at this
              omega
            have hlt2 : i * ks0.length + j < cur.size := by
              rw [hs]
              exact Nat.lt_of_lt_of_le hlt (Nat.mul_le_mul_right _ hn)
            rw [Nat.zero_add]
            simp only [World.cell?, hh]
            rw [if_neg (by simp), ← ht, Array.getElem?_eq_getElem hlt2]
            simp [List.getD_eq_getElem?_getD, hlt, hlt2]
      | froz v2 ks0 l0 =>
        cases hb : Nat.beq v2 ver with
        | false => simp [hb] at hr
        | true =>
          simp only [hb, Option.some.injEq, Prod.mk.injEq] at hr
          obtain ⟨rfl, rfl, rfl⟩ := hr
          simp only [verOf, Option.some.injEq] at e1
          rw [e2 (by have := Nat.eq_of_beq_eq_true hb; omega)]
          exact conc hc
  · obtain ⟨rfl, rfl, rfl⟩ := hr
    exact conc h.inv_sl
  · obtain ⟨rfl, rfl, rfl⟩ := hr
    exact ⟨fun e he => (by cases he), .inl ⟨h.inv_nilsl, rfl⟩⟩
  · obtain ⟨rfl, rfl, rfl⟩ := hr
    obtain ⟨ad, e1, e2⟩ := h.inv_fsl
    exact conc e2

/-- The cells of a slice, one behind the other. -/
def cellList (n len : Nat) (f : Nat → Nat → Value) : List Value := (List.range (len * n)).map fun q => f (q / n) (q % n)

theorem cellList_getD {n len : Nat} {f : Nat → Nat → Value} {i j : Nat} (hi : i < len) (hj : j < n) : (cellList n len f).getD (i * n + j) undef = f i j := by
  have hlt : i * n + j < len * n := by
    have : (i + 1) * n ≤ len * n := Nat.mul_le_mul_right _ hi
    rw [Nat.add_mul, Nat.one_mul] at this
    omega
  have h1 : (i * n + j) / n = i := by
    rw [Nat.mul_comm, Nat.mul_add_div (by omega), Nat.div_eq_of_lt hj, Nat.add_zero]
  have h2 : (i * n + j) % n = j := by
    rw [Nat.mul_comm, Nat.mul_add_mod, Nat.mod_eq_of_lt hj]
  simp only [cellList, List.getD_eq_getElem?_getD, List.getElem?_map, List.getElem?_range hlt, Option.map_some, Option.getD_some, h1, h2]
theorem cellList_length {n len : Nat} {f : Nat → Nat → Value} : (cellList n len f).length = len * n := by simp [cellList]
theorem cellList_get {n len : Nat} {f : Nat → Nat → Value} {q : Nat} {v : Value} (h : (cellList n len f)[q]? = some v) : q / n < len ∧ q % n < n ∧ v = f (q / n) (q % n) ∧ q = q / n * n + q % n := by
  have hlt : q < len * n := by have := (List.getElem?_eq_some_iff.1 h).1; rwa [cellList_length] at this
  have hn : 0 < n := by
    rcases Nat.eq_zero_or_pos n with h0 | h0
    · subst h0; simp at hlt
    · exact h0
  refine ⟨Nat.div_lt_of_lt_mul (by rwa [Nat.mul_comm]), Nat.mod_lt _ hn, ?_, ?_⟩
  · simp only [cellList, List.getElem?_map, List.getElem?_range hlt, Option.map_some, Option.some.injEq] at h
    exact h.symm
  · rw [Nat.mul_comm]; exact (Nat.div_add_mod q n).symm

theorem kOk_one {I : Nat → Prop} {x : Value} {v : SV} {k : CK} (hk : k ≠ .other) (h : kOk k v) (hx : Conc I w x v) : x.oneCell' = true := by
  cases k with
  | int k => obtain ⟨n, rfl⟩ := h; cases hx; rfl
  | bool => rcases h with rfl | rfl | ⟨b, rfl⟩ <;> cases hx <;> rfl
  | str => obtain ⟨s, rfl⟩ := h; cases hx; rfl
  | flt => obtain ⟨s, rfl⟩ := h; cases hx; rfl
  | cpx => obtain ⟨s, t, rfl⟩ := h; cases hx; rfl
  | sl ks =>
    rcases h with rfl | ⟨l, rfl⟩
    · cases hx; rfl
    · cases hx <;> rfl
  | other => exact (hk rfl).elim

theorem plainK_get : ∀ {ks : List CK}, plainK ks = true → ∀ j, j < ks.length → ks.getD j .other ≠ .other
  | [], _, j, hj => by simp at hj
  | k :: r, h, 0, _ => by cases k <;> simp [plainK] at h ⊢
  | k :: r, h, j + 1, hj => by
    have : plainK r = true := by cases k <;> simp_all [plainK]
    simpa using plainK_get this j (by simpa using hj)

theorem builtin_run {c : Call} {b : Builtin} (ho : o.op = .call c) (hc : c.callee = .builtin b) (w : World) : ∃ cs, (execOp a.eval o).run P w = (builtin b c.argTypes o.type cs (c.args.map a.eval)).run P w := by
  simp only [execOp, ho, _root_.Go.resolve, hc, Sem.run_bind, Sem.run_pure, Result.andThen_ok, invoke]
  exact ⟨_, rfl⟩

theorem args_one {m : Nat → Option Chunk} {xs : Array Operand} {g : Operand → SV} {e : Operand → Value} (h : ∀ x, CV E m w (e x) (g x)) {v : SV} (hv : xs.toList.map g = [v]) : ∃ x, xs.map e = #[x] ∧ CV E m w x v := by
  obtain ⟨l⟩ := xs
  match l, hv with
  | [x], hv => simp only [List.map_cons, List.map_nil, List.cons.injEq, and_true] at hv; exact ⟨e x, by simp, hv ▸ h x⟩
  | [], hv => simp at hv
  | _ :: _ :: _, hv => simp at hv
theorem args_two {m : Nat → Option Chunk} {xs : Array Operand} {g : Operand → SV} {e : Operand → Value} (h : ∀ x, CV E m w (e x) (g x)) {u v : SV} (hv : xs.toList.map g = [u, v]) : ∃ x y, xs.map e = #[x, y] ∧ CV E m w x u ∧ CV E m w y v := by
  obtain ⟨l⟩ := xs
  match l, hv with
  | [x, y], hv => simp only [List.map_cons, List.map_nil, List.cons.injEq, and_true] at hv; exact ⟨e x, e y, by simp, hv.1 ▸ h x, hv.2 ▸ h y⟩
  | [], hv => simp at hv
  | [_], hv => simp at hv
  | _ :: _ :: _ :: _, hv => simp at hv

theorem list_one {α : Type} {xs : Array α} {v : α} (h : xs.toList = [v]) : xs = #[v] := by
  obtain ⟨l⟩ := xs; simp at h; rw [h]
theorem list_two {α : Type} {xs : Array α} {u v : α} (h : xs.toList = [u, v]) : xs = #[u, v] := by
  obtain ⟨l⟩ := xs; simp at h; rw [h]

theorem sound_len (hP : CxOk P cx) {c : Call} (ho : o.op = .call c) (hc : c.callee = .builtin .len) : Sound cx P o := by
  intro B M I0 G w0 E s a w K Q h hd hob hK
  have e : opx cx s.mem (ev s.tm) o = builtinOf cx s.mem .len c.argTypes.toList o.dst (c.args.toList.map (ev s.tm)) := by simp [opx, ho, opE, hc]
  rw [e] at hob hK
  generalize hargs : c.args.toList.map (ev s.tm) = args at hob hK
  generalize hts : c.argTypes.toList = ts at hob hK
  simp only [builtinOf] at hob hK
  match ts, args with
  | [], _ => exact hob.elim
  | [_], [] => exact hob.elim
  | [_], _ :: _ :: _ => exact hob.elim
  | _ :: _ :: _, _ => exact hob.elim
  | [t], [v] =>
    obtain ⟨x, e1, hx⟩ := args_one h.eval hargs
    have e2 := list_one hts
    simp only [lenOf] at hob hK
    cases ht : tyOf cx t with
    | none => rw [ht] at hob; exact hob.elim
    | some L =>
      obtain ⟨d, h1, h2⟩ := (tyRun hP ht).desc
      simp only [ht] at hob hK
      cases hk : L.k <;> simp only [hk] at hob hK h2 <;> try exact hob.elim
      · have := TkOk_str h2
        subst this
        cases v <;> simp only at hob hK <;> try exact hob.elim
        rename_i l
        obtain ⟨b, e3, e4⟩ := hx.inv_str
        refine op_val h hd (x := .int .i64 l.length) ?_ (.conc _ _ (.int _ _)) hK
        obtain ⟨cs, e5⟩ := builtin_run (P := P) (a := a) ho hc w
        rw [e5]
        simp [e1, e2, e3, builtin, Builtin.len_, run_underlying h1, goInt, ← e4]
      · have := TkOk_sl h2
        subst this
        cases hr : rowOf s.mem v with
        | none => simp only [hr] at hob; exact hob.elim
        | some r =>
          obtain ⟨ks, l, rd⟩ := r
          simp only [hr] at hob hK
          obtain ⟨ad, cap, e3⟩ := rowOf_len h.ch hx hr
          refine op_val h hd (x := .int .i64 l.length) ?_ (.conc _ _ (.int _ _)) hK
          obtain ⟨cs, e5⟩ := builtin_run (P := P) (a := a) ho hc w
          rw [e5]
          simp [e1, e2, e3, builtin, Builtin.len_, run_underlying h1, goInt]

theorem sound_min {c : Call} (ho : o.op = .call c) (hc : c.callee = .builtin .min) : Sound cx P o := by
  intro B M I0 G w0 E s a w K Q h hd hob hK
  have e : opx cx s.mem (ev s.tm) o = builtinOf cx s.mem .min c.argTypes.toList o.dst (c.args.toList.map (ev s.tm)) := by simp [opx, ho, opE, hc]
  rw [e] at hob hK
  generalize hargs : c.args.toList.map (ev s.tm) = args at hob hK
  simp only [builtinOf] at hob hK
  match args with
  | [] => exact hob.elim
  | [_] => exact hob.elim
  | _ :: _ :: _ :: _ => exact hob.elim
  | [u, v] =>
    obtain ⟨x, y, e1, hx, hy⟩ := args_two h.eval hargs
    simp only [minOf] at hob hK
    split at hob <;> try exact hob.elim
    rename_i k a1 k' a2
    simp only at hK
    refine op_val h hd (x := .int k (minV a1 a2)) ?_ (.conc _ _ (.int _ _)) hK
    obtain ⟨cs, e5⟩ := builtin_run (P := P) (a := a) ho hc w
    rw [e5]
    simp [e1, hx.inv_int, hy.inv_int, builtin, Builtin.min_, Builtin.min2, minV]

theorem sound_max {c : Call} (ho : o.op = .call c) (hc : c.callee = .builtin .max) : Sound cx P o := by
  intro B M I0 G w0 E s a w K Q h hd hob hK
  have e : opx cx s.mem (ev s.tm) o = builtinOf cx s.mem .max c.argTypes.toList o.dst (c.args.toList.map (ev s.tm)) := by simp [opx, ho, opE, hc]
  rw [e] at hob hK
  generalize hargs : c.args.toList.map (ev s.tm) = args at hob hK
  simp only [builtinOf] at hob hK
  match args with
  | [] => exact hob.elim
  | [_] => exact hob.elim
  | _ :: _ :: _ :: _ => exact hob.elim
  | [u, v] =>
    obtain ⟨x, y, e1, hx, hy⟩ := args_two h.eval hargs
    simp only [maxOf] at hob hK
    split at hob <;> try exact hob.elim
    rename_i k a1 k' a2
    simp only at hK
    refine op_val h hd (x := .int k (maxV a1 a2)) ?_ (.conc _ _ (.int _ _)) hK
    obtain ⟨cs, e5⟩ := builtin_run (P := P) (a := a) ho hc w
    rw [e5]
    simp [e1, hx.inv_int, hy.inv_int, builtin, Builtin.max_, Builtin.max2, maxV]

theorem sound_complex {c : Call} (ho : o.op = .call c) (hc : c.callee = .builtin .complex) : Sound cx P o := by
  intro B M I0 G w0 E s a w K Q h hd hob hK
  have e : opx cx s.mem (ev s.tm) o = builtinOf cx s.mem .complex c.argTypes.toList o.dst (c.args.toList.map (ev s.tm)) := by simp [opx, ho, opE, hc]
  rw [e] at hob hK
  generalize hargs : c.args.toList.map (ev s.tm) = args at hob hK
  simp only [builtinOf] at hob hK
  match args with
  | [] => exact hob.elim
  | [_] => exact hob.elim
  | _ :: _ :: _ :: _ => exact hob.elim
  | [u, v] =>
    obtain ⟨x, y, e1, hx, hy⟩ := args_two h.eval hargs
    simp only [cpxOf] at hob hK
    split at hob <;> try exact hob.elim
    rename_i a1 a2
    simp only at hK
    refine op_val h hd (x := .complex .f64 a1 a2) ?_ (.conc _ _ (.cpx _ _)) hK
    obtain ⟨cs, e5⟩ := builtin_run (P := P) (a := a) ho hc w
    rw [e5]
    simp [e1, hx.inv_flt, hy.inv_flt, builtin, run_complex]
theorem sound_real {c : Call} (ho : o.op = .call c) (hc : c.callee = .builtin .real) : Sound cx P o := by
  intro B M I0 G w0 E s a w K Q h hd hob hK
  have e : opx cx s.mem (ev s.tm) o = builtinOf cx s.mem .real c.argTypes.toList o.dst (c.args.toList.map (ev s.tm)) := by simp [opx, ho, opE, hc]
  rw [e] at hob hK
  generalize hargs : c.args.toList.map (ev s.tm) = args at hob hK
  simp only [builtinOf] at hob hK
  match args with
  | [] => exact hob.elim
  | _ :: _ :: _ => exact hob.elim
  | [u] =>
    obtain ⟨x, e1, hx⟩ := args_one h.eval hargs
    simp only [reOf] at hob hK
    split at hob <;> try exact hob.elim
    rename_i a1 a2
    simp only at hK
    refine op_val h hd (x := .float .f64 a1) ?_ (.conc _ _ (.flt _)) hK
    obtain ⟨cs, e5⟩ := builtin_run (P := P) (a := a) ho hc w
    rw [e5]
    simp [e1, hx.inv_cpx, builtin, run_real]
theorem sound_imag {c : Call} (ho : o.op = .call c) (hc : c.callee = .builtin .imag) : Sound cx P o := by
  intro B M I0 G w0 E s a w K Q h hd hob hK
  have e : opx cx s.mem (ev s.tm) o = builtinOf cx s.mem .imag c.argTypes.toList o.dst (c.args.toList.map (ev s.tm)) := by simp [opx, ho, opE, hc]
  rw [e] at hob hK
  generalize hargs : c.args.toList.map (ev s.tm) = args at hob hK
  simp only [builtinOf] at hob hK
  match args with
  | [] => exact hob.elim
  | _ :: _ :: _ => exact hob.elim
  | [u] =>
    obtain ⟨x, e1, hx⟩ := args_one h.eval hargs
    simp only [imOf] at hob hK
    split at hob <;> try exact hob.elim
    rename_i a1 a2
    simp only at hK
    refine op_val h hd (x := .float .f64 a2) ?_ (.conc _ _ (.flt _)) hK
    obtain ⟨cs, e5⟩ := builtin_run (P := P) (a := a) ho hc w
    rw [e5]
    simp [e1, hx.inv_cpx, builtin, run_imag]

/-- The cells of one row into another one. -/
theorem copy_run {t t2 ty e : Nat} {inf : TypeInfo} (ht : P.underlying t = some (.slice e)) (hi : P.info? e = some inf) {g dl dc sl sc : Nat} {cur : Array Value} {e' : Nat} {ad : Addr} {cs : List Value}
    (hg : w.heap[g]? = some (.cells cur e' (0, 0))) (hl : cs.length = Nat.min sl dl * inf.size) (hsrc : ∀ j v, cs[j]? = some v → w.cell? (ad.add j) = some v) (hfit : cs.length ≤ cur.size) (h1 : ∀ v ∈ cs, v.oneCell' = true) :
    (Builtin.copy_ #[t, t2] ty #[.slice (some ⟨g, 0, none⟩) dl dc, .slice (some ad) sl sc]).run P w = .ok (.int .i64 (Nat.min sl dl : Nat)) (w.setRow g (cur.toList.take 0 ++ cs ++ cur.toList.drop (0 + cs.length)).toArray) := by
  have hld := run_loadCells_list (P := P) w ad cs hsrc
  have hst := run_storeCells_at P g 0 e' cs 0 cur w hg (by simpa using hfit) h1
  simp only [Nat.add_zero] at hst
  rw [hl] at hld
  simp [Builtin.copy_, run_underlying ht, Builtin.lenOf, Builtin.firstCells, run_size hi, hld, hst, goInt]
theorem copy_nil {t t2 ty e : Nat} {inf : TypeInfo} (ht : P.underlying t = some (.slice e)) (hi : P.info? e = some inf) {d ad : Option Addr} {dl dc sl sc : Nat} (h0 : Nat.min sl dl = 0) :
    (Builtin.copy_ #[t, t2] ty #[.slice d dl dc, .slice ad sl sc]).run P w = .ok (.int .i64 0) w := by
  have hl : ∀ (x : Addr), (loadCells x 0).run P w = .ok #[] w := fun x => by simpa using run_loadCells_list (P := P) w x [] (by simp)
  cases d <;> cases ad <;> simp [Builtin.copy_, run_underlying ht, Builtin.lenOf, Builtin.firstCells, run_size hi, h0, storeCells, hl, goInt]

theorem sound_copy (hP : CxOk P cx) {c : Call} (ho : o.op = .call c) (hc : c.callee = .builtin .copy) : Sound cx P o := by
  intro B M I0 G w0 E s a w K Q h hd hob hK
  have e : opx cx s.mem (ev s.tm) o = builtinOf cx s.mem .copy c.argTypes.toList o.dst (c.args.toList.map (ev s.tm)) := by simp [opx, ho, opE, hc]
  rw [e] at hob hK
  generalize hargs : c.args.toList.map (ev s.tm) = args at hob hK
  generalize hts : c.argTypes.toList = ts at hob hK
  simp only [builtinOf] at hob hK
  unfold copyOf at hob hK
  split at hob
  · rename_i t t' v w2
    simp only at hK
    obtain ⟨x, y, e1, hx, hy⟩ := args_two h.eval hargs
    have e2 := list_two hts
    split at hob
    · rename_i ks' l' rd' L hr ht
      simp only [hr, ht] at hK
      obtain ⟨d, h1, h2⟩ := (tyRun hP ht).desc
      cases hk : L.k <;> simp only [hk] at hob hK h2 <;> try exact hob.elim
      rename_i et
      have := TkOk_sl h2
      subst this
      cases hte : tyOf cx et with
      | none => simp only [hte] at hob; exact hob.elim
      | some Le =>
        simp only [hte] at hob hK
        obtain ⟨inf, z, i1, i2, i3, i4, i5, i6, i7⟩ := (tyRun hP hte).info
        cases v <;> simp only at hob hK <;> try exact hob.elim
        rename_i c0 ver
        cases hm : lkO s.mem c0 with
        | none => simp only [hm] at hob; exact hob.elim
        | some ch =>
          simp only [hm] at hob hK
          cases ch <;> simp only at hob hK <;> try exact hob.elim
          rename_i v2 e' ks l
          cases hq : (Nat.beq v2 ver && cksEq ks Le.ks && cksEq ks' Le.ks && plainK Le.ks && !(rd'.contains c0)) with
          | false => simp only [hq] at hob; exact hob.elim
          | true =>
            simp only [hq] at hob hK
            simp only [Bool.and_eq_true] at hq
            obtain ⟨⟨⟨⟨p1, p2⟩, p3⟩, p4⟩, p5⟩ := hq
            have p1 := Nat.eq_of_beq_eq_true p1
            have p2 := cksEq_eq _ _ p2
            have p3 := cksEq_eq _ _ p3
            subst p1
            obtain ⟨hsh, hcase⟩ := rowOf_cells h.ch hy hr
            rw [p3, ← p2] at hsh hcase
            rw [← p2] at i2 p4
            have hrow : RowR E w c0 e' ks l := by have := h.ch c0; rw [hm] at this; exact this
            obtain ⟨v', g1, g2⟩ := hx.inv_osl
            rw [hm] at g1
            simp only [verOf, Option.some.injEq] at g1
            have hxe := g2 g1
            obtain ⟨cs, e5⟩ := builtin_run (P := P) (a := a) ho hc w
            have run : ∀ {x' : Value} {w' : World}, (Builtin.copy_ #[t, t'] o.type #[x, y]).run P w = .ok x' w' → (execOp a.eval o).run P w = .ok (.value x') w' := fun hh => by
              rw [e5]
              simp [builtin, e1, e2, hh]
            have same : Nat.min l'.length l.length = 0 → copyL l l' = l := fun h0 => by
              unfold copyL
              have h0 : min l'.length l.length = 0 := h0
              rcases (by omega : l'.length = 0 ∨ l.length = 0) with q | q
              · rw [List.eq_nil_of_length_eq_zero q]; simp
              · rw [List.eq_nil_of_length_eq_zero q]; simp
            have nothing : ∀ {d ad : Option Addr} {dl dc sl sc : Nat}, x = .slice d dl dc → y = .slice ad sl sc → dl = l.length → sl = l'.length → Nat.min l'.length l.length = 0 → Oper.wp P o a w K Q := by
              intro d ad dl dc sl sc ex ey hdl hsl h0
              have hrun := run (by rw [ex, ey]; exact copy_nil (P := P) (w := w) (ty := o.type) (t2 := t') h1 i1 (by rw [hdl, hsl]; exact h0))
              unfold Oper.wp
              rw [hrun]
              refine hK E _ _ ?_
              rw [same h0, h0]
              have hr0 : RowR E w c0 e' ks l := hrow
              rcases hl : E.loc c0 with _ | g
              · exact (h.val (dOk_lt hd) (x := .int .i64 0) (v := .int .i64 0) (.conc _ _ (.int _ _))).congr (fun _ => rfl) (fun k => by
                  show lkO ([(c0, Chunk.row v2 e' ks l)] ++ s.mem) k = lkO ([] ++ s.mem) k
                  rw [List.singleton_append, lkO_cons, List.nil_append]
                  split
                  · rename_i q; rw [← q, hm]
                  · rfl)
              · exact h.storeRow hm hl (fun _ _ => rfl) rfl ⟨rfl, rfl, rfl⟩ hr0 (dOk_lt hd) (.conc _ _ (.int _ _))
            obtain ⟨t1, ⟨t2, xs, t3, t4⟩ | ⟨z1, z2, ad0, z3⟩⟩ := id hrow
            rotate_left
            · have hl0 : l.length = 0 := by rw [z1]; rfl
              have hx0 : x = .slice ad0 0 0 := hxe.trans z3
              rcases hcase with ⟨ey, el⟩ | ⟨el, ad, cap, ey⟩ | ⟨b, off, cap, f, ey, hf⟩
              · exact nothing hx0 ey hl0.symm (by rw [el]; rfl) (by rw [hl0]; exact Nat.min_zero _)
              · exact nothing hx0 ey hl0.symm (by rw [el]; rfl) (by rw [hl0]; exact Nat.min_zero _)
              · exact nothing hx0 ey hl0.symm rfl (by rw [hl0]; exact Nat.min_zero _)
            rw [hxe] at *
            rcases t3.2 with ⟨q1, q2⟩ | ⟨g, cap, cur, c1, c2, c3, c4, c5, c6, c7⟩
            · rcases hcase with ⟨ey, el⟩ | ⟨el, ad, cap, ey⟩ | ⟨b, off, cap, f, ey, hf⟩
              · exact nothing q1 ey q2.symm (by rw [el]; rfl) (by rw [q2]; exact Nat.min_zero _)
              · exact nothing q1 ey q2.symm (by rw [el]; rfl) (by rw [q2]; exact Nat.min_zero _)
              · exact nothing q1 ey q2.symm rfl (by rw [q2]; exact Nat.min_zero _)
            · rcases hcase with ⟨ey, el⟩ | ⟨el, ad, cap, ey⟩ | ⟨b, off, cap2, f, ey, hf⟩
              · exact nothing c1 ey rfl (by rw [el]; rfl) (by rw [el]; exact Nat.zero_min _)
              · exact nothing c1 ey rfl (by rw [el]; rfl) (by rw [el]; exact Nat.zero_min _)
              · have hl : E.loc c0 = some g := by rw [t2, c1]; rfl
                have hnl : Nat.min l'.length l.length ≤ l.length := Nat.min_le_right _ _
                have hnl' : Nat.min l'.length l.length ≤ l'.length := Nat.min_le_left _ _
                generalize hn : Nat.min l'.length l.length = n at *
                have hcap : l.length * ks.length ≤ cur.size := by rw [c6]; exact Nat.mul_le_mul_right _ c4
                have hnk : n * ks.length ≤ l.length * ks.length := Nat.mul_le_mul_right _ hnl
                have hclen : (cellList ks.length n f).length = n * ks.length := cellList_length
                have hrun := run (by
                  rw [c1, ey]
                  refine copy_run (P := P) (w := w) (t2 := t') (ty := o.type) (cs := cellList ks.length n f) h1 i1 c3 (by rw [hclen, i2, hn]) (fun j u hj => ?_) (by omega) (fun u hu => ?_)
                  · obtain ⟨d1, d2, d3, d4⟩ := cellList_get hj
                    rw [addr_add, d3]
                    have := (hf _ _ (Nat.lt_of_lt_of_le d1 hnl') d2).1
                    rw [Nat.add_assoc, ← d4] at this
                    exact this
                  · obtain ⟨j, hj⟩ := List.getElem?_of_mem hu
                    obtain ⟨d1, d2, d3, _⟩ := cellList_get hj
                    rw [d3]
                    exact kOk_one (plainK_get p4 _ d2) (shOk_get hsh (Nat.lt_of_lt_of_le d1 hnl') d2) (hf _ _ (Nat.lt_of_lt_of_le d1 hnl') d2).2)
                generalize hcu : (cur.toList.take 0 ++ cellList ks.length n f ++ cur.toList.drop (0 + (cellList ks.length n f).length)).toArray = cur' at hrun
                have hcs : cur'.size = cur.size := by rw [← hcu]; simp; omega
                have hheap := setRow_heap w g cur cur' e' (0, 0) c3
                have hI : ∀ k, E.I k → (w.setRow g cur').heap[k]? = w.heap[k]? := fun k hk => setRow_other _ _ _ _ (fun e => (h.loc c0 g hl).2.1 (e ▸ hk))
                have hgd : ∀ j, cur'.getD j undef = if j < n * ks.length then (cellList ks.length n f).getD j undef else cur.getD j undef := fun j => by
                  have := storeRow_getD cur (cellList ks.length n f).toArray 0 j (by simp; omega)
                  simp only [List.size_toArray, Nat.zero_le, true_and, Nat.zero_add, Nat.sub_zero] at this hcu
                  rw [hcu, hclen] at this
                  rw [this]
                  simp only [Array.getD_eq_getD_getElem?, List.getElem?_toArray, List.getD_eq_getElem?_getD]
                have hn2 : min l'.length l.length = n := hn
                have hll : (copyL l l').length = l.length := by
                  unfold copyL
                  simp only [List.length_append, List.length_take, List.length_drop]
                  omega
                have hget : ∀ i, i < l.length → (copyL l l').getD i .any = if i < n then l'.getD i .any else l.getD i .any := fun i hi => by
                  unfold copyL
                  simp only [List.getD_eq_getElem?_getD, List.getElem?_append, List.length_take, List.getElem?_take, List.getElem?_drop]
                  have hn' : min l.length l'.length = n := by rw [← hn]; exact Nat.min_comm _ _
                  rw [hn']
                  by_cases hin : i < n
                  · rw [if_pos hin, if_pos hin, if_pos hi]
                  · rw [if_neg hin, if_neg hin]
                    have : l'.length + (i - n) = i := by
                      have : n = l'.length ∨ n = l.length := by omega
                      omega
                    rw [this]
                unfold Oper.wp
                rw [hrun]
                rw [hn]
                refine hK E _ _ (h.storeRow hm hl (fun k hk => setRow_other _ _ _ _ hk) (by simp [World.setRow]) ⟨rfl, rfl, rfl⟩ ⟨fun v hv => ?_, .inl ⟨t2, (cur'.toList.take (l.length * ks.length)), ⟨?_, .inr ⟨g, cap, cur', ?_, c2, hheap, ?_, c5, by rw [hcs]; exact c6, ?_⟩⟩, fun i j hi hj => ?_⟩⟩ (dOk_lt hd) (.conc _ _ (.int _ _)))
                · rcases List.mem_append.1 hv with hv | hv
                  · exact hsh _ (List.mem_of_mem_take hv)
                  · exact t1 _ (List.mem_of_mem_drop hv)
                · rw [hll]; simp only [List.length_take, Array.length_toList]; omega
                · rw [hll, c1]
                · rw [hll]; exact c4
                · rw [hll]
                · rw [hll] at hi
                  have hlt : i * ks.length + j < l.length * ks.length := by
                    have : (i + 1) * ks.length ≤ l.length * ks.length := Nat.mul_le_mul_right _ hi
                    rw [Nat.add_mul, Nat.one_mul] at this
                    omega
                  have g1 : (cur'.toList.take (l.length * ks.length)).getD (i * ks.length + j) undef = cur'.getD (i * ks.length + j) undef := by
                    rw [List.getD_eq_getElem?_getD, List.getElem?_take, if_pos hlt, Array.getD_eq_getD_getElem?, Array.getElem?_toList]
                  have g2 : xs.getD (i * ks.length + j) undef = cur.getD (i * ks.length + j) undef := by
                    rw [← c7, List.getD_eq_getElem?_getD, List.getElem?_take, if_pos hlt, Array.getD_eq_getD_getElem?, Array.getElem?_toList]
                  have hold := t4 i j hi hj
                  rw [g2] at hold
                  rw [g1, hgd]
                  unfold elCell
                  rw [hget i hi]
                  by_cases hin : i < n
                  · have hlt2 : i * ks.length + j < n * ks.length := by
                      have : (i + 1) * ks.length ≤ n * ks.length := Nat.mul_le_mul_right _ hin
                      rw [Nat.add_mul, Nat.one_mul] at this
                      omega
                    rw [if_pos hin, if_pos hlt2, cellList_getD hin hj]
                    exact ((hf i j (by omega) hj).2).mono (fun _ h => h) hI
                  · have hge : n * ks.length ≤ i * ks.length := Nat.mul_le_mul_right _ (by omega)
                    rw [if_neg hin, if_neg (by omega)]
                    exact hold.mono (fun _ h => h) hI
    · exact hob.elim
  · exact hob.elim

/-- Nothing is appended. -/
theorem append_none {t ty e size : Nat} {inf : TypeInfo} {v : Value} {n : Nat} {xs : List Value} {ad : Option Addr} {cap : Nat} (ht : P.underlying t = some (.slice e)) (hi : P.info? e = some inf) (ho : w.ownsRow 0 e size v n xs) :
    (Builtin.append_ #[t, t] ty #[v, .slice ad 0 cap]).run P w = .ok v w := by
  have hf : (Builtin.firstCells inf.size 0 (.slice ad 0 cap)).run P w = .ok #[] w := by cases ad <;> simp [Builtin.firstCells, loadCells, loadCellsFrom]
  rcases ho.2 with ⟨rfl, rfl⟩ | ⟨g, c, cur, rfl, _, _, hn, _⟩
  · simp [Builtin.append_, run_underlying ht, run_size hi, Builtin.lenOf, hf]
  · simp [Builtin.append_, run_underlying ht, run_size hi, Builtin.lenOf, hf, hn, storeCells]

theorem append_zero {t ty e : Nat} {inf : TypeInfo} {ad0 ad : Option Addr} {cap : Nat} (ht : P.underlying t = some (.slice e)) (hi : P.info? e = some inf) :
    (Builtin.append_ #[t, t] ty #[.slice ad0 0 0, .slice ad 0 cap]).run P w = .ok (.slice ad0 0 0) w := by
  have hf : (Builtin.firstCells inf.size 0 (.slice ad 0 cap)).run P w = .ok #[] w := by cases ad <;> simp [Builtin.firstCells, loadCells, loadCellsFrom]
  cases ad0 <;> simp [Builtin.append_, run_underlying ht, run_size hi, Builtin.lenOf, hf, storeCells]

/-- Some are. -/
theorem append_some {t ty e : Nat} {inf : TypeInfo} {z v : Value} {n : Nat} {xs : List Value} {ad : Addr} {m c : Nat} {news : List Value} (ht : P.underlying t = some (.slice e)) (hi : P.info? e = some inf) (hz : inf.zero = some z) (hzs : z.cells.size = inf.size)
    (ho : w.ownsRow 0 e inf.size v n xs) (hm : 0 < m) (hl : news.length = m * inf.size) (hnews : ∀ j u, news[j]? = some u → w.cell? (ad.add j) = some u) (h1 : ∀ u ∈ news, u.oneCell' = true)
    (hlen : n + m ≤ 1099511627776) (hby : (n + m) * inf.bytes ≤ 1099511627776) :
    ∃ v' w', (Builtin.append_ #[t, t] ty #[v, .slice (some ad) m c]).run P w = .ok v' w' ∧ w'.ownsRow 0 e inf.size v' (n + m) (xs ++ news) ∧ w.grownBy w' v.ownBlock ∧ ∀ b, v'.ownBlock = some b → b < w'.heap.size ∧ (v.ownBlock = some b ∨ w.heap.size ≤ b) := by
  have hxs := ho.1
  have hxl : (xs ++ news).length = (n + m) * inf.size := by rw [List.length_append, hxs, hl, Nat.add_mul]
  -- a new block
  have fresh : ∀ (old : Nat) (cells : Array Value), cells = xs.toArray ++ news.toArray ++ Builtin.zeroCells z.cells (grownCap w (n + m) old e - (n + m)) →
      (w.drew.alloc (.cells cells e)).ownsRow 0 e inf.size (.slice (some ⟨w.heap.size, 0, none⟩) (n + m) (grownCap w (n + m) old e)) (n + m) (xs ++ news) := by
    intro old cells hc
    have hge := grownCap_ge w (n + m) old e
    refine ⟨hxl, .inr ⟨w.heap.size, _, cells, rfl, Nat.zero_le _, heap_new w.drew _, hge, grownCap_le_maxLen w (n + m) old e (by simp only [maxLen]; omega), ?_, ?_⟩⟩
    · rw [hc]
      simp only [Array.size_append, List.size_toArray, size_zeroCells, hxs, hl, hzs, ← Nat.add_mul]
      congr 1
      omega
    · rw [hc]
      simp only [Array.toList_append]
      rw [← hxl]
      exact List.take_left
  have grew : ∀ (o : Obj) (r : Option Nat), w.grownBy (w.drew.alloc o) r := fun o r => ⟨rfl, rfl, rfl, by simp, fun k hk _ => heap_push w.drew o k hk⟩
  rcases ho.2 with ⟨rfl, rfl⟩ | ⟨g, cap, cur, rfl, _, hg, hnc, hcm, hcs, htk⟩
  · have hx : xs = [] := List.eq_nil_of_length_eq_zero (by simpa using hxs)
    subst hx
    simp only [Nat.zero_add] at hby hlen
    have hr := run_append_nil (P := P) w t ty e inf z ht hi hz ad m c news hl hnews hm (by omega) (by omega)
    refine ⟨_, _, hr, ?_, grew _ _, fun b hb => ?_⟩
    · have := fresh 0 (news.toArray ++ Builtin.zeroCells z.cells (grownCap w m 0 e - m)) (by simp)
      simpa only [Nat.zero_add] using this
    · simp only [Value.ownBlock, Option.some.injEq] at hb
      subst hb
      exact ⟨by simp, .inr (Nat.le_refl _)⟩
  · by_cases hroom : n + m ≤ cap
    · have hfit : n * inf.size + news.length ≤ cur.size := by rw [hl, hcs, ← Nat.add_mul]; exact Nat.mul_le_mul_right _ hroom
      have hr := run_append_room (P := P) w t ty e inf ht hi g n cap cur hg ad m c news hl hnews h1 hroom hfit
      refine ⟨_, _, hr, ⟨hxl, .inr ⟨g, cap, _, rfl, Nat.zero_le _, setRow_heap w g cur _ e _ hg, hroom, hcm, ?_, ?_⟩⟩, ⟨rfl, rfl, rfl, by simp [World.setRow], fun k _ hk => setRow_other w g _ k (fun e => hk (by simp [Value.ownBlock, e]))⟩, fun b hb => ?_⟩
      · simp only [List.size_toArray, List.length_append, List.length_take, List.length_drop, Array.length_toList]
        omega
      · rw [htk, ← hxl]
        exact List.take_left
      · simp only [Value.ownBlock, Option.some.injEq] at hb
        subst hb
        refine ⟨?_, .inl rfl⟩
        have : g < w.heap.size := by
          rcases Nat.lt_or_ge g w.heap.size with h | h
          · exact h
          · rw [Array.getElem?_eq_none h] at hg; cases hg
        simpa [World.setRow] using this
    · have holds : ∀ j u, xs[j]? = some u → w.cell? ((⟨g, 0, none⟩ : Addr).add j) = some u := ho.cells (g := g) rfl
      have hr := run_append_grow (P := P) w t ty e inf z ht hi hz ⟨g, 0, none⟩ n cap xs hxs holds ad m c news hl hnews (by omega) (by omega) (growslice_fits (by omega) (by omega))
      refine ⟨_, _, hr, fresh cap _ rfl, grew _ _, fun b hb => ?_⟩
      simp only [Value.ownBlock, Option.some.injEq] at hb
      subst hb
      exact ⟨by simp, .inr (Nat.le_refl _)⟩

/-- .. onto a slice that is full: a new block. -/
theorem append_full {t ty e : Nat} {inf : TypeInfo} {z : Value} {n : Nat} {xs : List Value} {ad0 : Option Addr} {ad : Addr} {m c : Nat} {news : List Value} (ht : P.underlying t = some (.slice e)) (hi : P.info? e = some inf) (hz : inf.zero = some z) (hzs : z.cells.size = inf.size)
    (hxs : xs.length = n * inf.size) (ho : (n = 0 ∧ ad0 = none) ∨ ∃ b, ad0 = some b ∧ ∀ j u, xs[j]? = some u → w.cell? (b.add j) = some u) (hm : 0 < m) (hl : news.length = m * inf.size) (hnews : ∀ j u, news[j]? = some u → w.cell? (ad.add j) = some u)
    (hlen : n + m ≤ 1099511627776) (hby : (n + m) * inf.bytes ≤ 1099511627776) :
    ∃ v' w', (Builtin.append_ #[t, t] ty #[.slice ad0 n n, .slice (some ad) m c]).run P w = .ok v' w' ∧ w'.ownsRow 0 e inf.size v' (n + m) (xs ++ news) ∧ w.grownBy w' none ∧ ∀ b, v'.ownBlock = some b → b < w'.heap.size ∧ w.heap.size ≤ b := by
  have hxl : (xs ++ news).length = (n + m) * inf.size := by rw [List.length_append, hxs, hl, Nat.add_mul]
  have fresh : ∀ (old : Nat) (cells : Array Value), cells = xs.toArray ++ news.toArray ++ Builtin.zeroCells z.cells (grownCap w (n + m) old e - (n + m)) →
      (w.drew.alloc (.cells cells e)).ownsRow 0 e inf.size (.slice (some ⟨w.heap.size, 0, none⟩) (n + m) (grownCap w (n + m) old e)) (n + m) (xs ++ news) := by
    intro old cells hc
    have hge := grownCap_ge w (n + m) old e
    refine ⟨hxl, .inr ⟨w.heap.size, _, cells, rfl, Nat.zero_le _, heap_new w.drew _, hge, grownCap_le_maxLen w (n + m) old e (by simp only [maxLen]; omega), ?_, ?_⟩⟩
    · rw [hc]
      simp only [Array.size_append, List.size_toArray, size_zeroCells, hxs, hl, hzs, ← Nat.add_mul]
      congr 1
      omega
    · rw [hc]
      simp only [Array.toList_append]
      rw [← hxl]
      exact List.take_left
  have grew : ∀ (o : Obj), w.grownBy (w.drew.alloc o) none := fun o => ⟨rfl, rfl, rfl, by simp, fun k hk _ => heap_push w.drew o k hk⟩
  rcases ho with ⟨rfl, rfl⟩ | ⟨b, rfl, holds⟩
  · have hx : xs = [] := List.eq_nil_of_length_eq_zero (by simpa using hxs)
    subst hx
    simp only [Nat.zero_add] at hby hlen
    have hr := run_append_nil (P := P) w t ty e inf z ht hi hz ad m c news hl hnews hm (by omega) (by omega)
    refine ⟨_, _, hr, ?_, grew _, fun b hb => ?_⟩
    · have := fresh 0 (news.toArray ++ Builtin.zeroCells z.cells (grownCap w m 0 e - m)) (by simp)
      simpa only [Nat.zero_add] using this
    · simp only [Value.ownBlock, Option.some.injEq] at hb
      subst hb
      exact ⟨by simp, Nat.le_refl _⟩
  · have hr := run_append_grow (P := P) w t ty e inf z ht hi hz b n n xs hxs holds ad m c news hl hnews (by omega) (by omega) (growslice_fits (by omega) (by omega))
    refine ⟨_, _, hr, fresh n _ rfl, grew _, fun b hb => ?_⟩
    simp only [Value.ownBlock, Option.some.injEq] at hb
    subst hb
    exact ⟨by simp, Nat.le_refl _⟩

theorem sound_append (hP : CxOk P cx) {c : Call} (ho : o.op = .call c) (hc : c.callee = .builtin .append) : Sound cx P o := by
  intro B M I0 G w0 E s a w K Q h hd hob hK
  have e : opx cx s.mem (ev s.tm) o = builtinOf cx s.mem .append c.argTypes.toList o.dst (c.args.toList.map (ev s.tm)) := by simp [opx, ho, opE, hc]
  rw [e] at hob hK
  generalize hargs : c.args.toList.map (ev s.tm) = args at hob hK
  generalize hts : c.argTypes.toList = ts at hob hK
  simp only [builtinOf] at hob hK
  unfold appOf at hob hK
  split at hob
  · rename_i t t' v w2
    simp only at hK
    obtain ⟨x, y, e1, hx, hy⟩ := args_two h.eval hargs
    have e2 := list_two hts
    split at hob
    · rename_i ks' l' rd' L hr ht hbt
      simp only [hr, ht, hbt] at hK
      have hbt' := Nat.eq_of_beq_eq_true hbt
      subst hbt'
      obtain ⟨d, h1, h2⟩ := (tyRun hP ht).desc
      cases hk : L.k <;> simp only [hk] at hob hK h2 <;> try exact hob.elim
      rename_i et
      have := TkOk_sl h2
      subst this
      cases hte : tyOf cx et with
      | none => simp only [hte] at hob; exact hob.elim
      | some Le =>
        simp only [hte] at hob hK
        cases hq : (cksEq ks' Le.ks && plainK Le.ks && Nat.blt 0 Le.ks.length) with
        | false => simp only [hq] at hob; exact hob.elim
        | true =>
          simp only [hq] at hob hK
          simp only [Bool.and_eq_true] at hq
          obtain ⟨⟨q1, q2⟩, q3⟩ := hq
          have q1 := cksEq_eq _ _ q1
          have q3 : 0 < Le.ks.length := by simpa [Nat.blt_eq] using q3
          obtain ⟨inf, z, i1, i2, i3, i4, i5, i6, i7⟩ := (tyRun hP hte).info
          obtain ⟨hsh, hcase⟩ := rowOf_cells h.ch hy hr
          rw [q1] at hsh hcase
          -- one append, onto whatever the function owns
          have main : ∀ (n : Nat) (xs : List Value), w.ownsRow 0 et Le.ks.length x n xs → n + l'.length ≤ 1099511627776 → (n + l'.length) * Le.bytes ≤ 1099511627776 →
              ∃ x' w' news, (execOp a.eval o).run P w = .ok (.value x') w' ∧ w'.ownsRow 0 et Le.ks.length x' (n + l'.length) (xs ++ news) ∧ w.grownBy w' x.ownBlock ∧ (∀ b, x'.ownBlock = some b → b < w'.heap.size ∧ (x.ownBlock = some b ∨ w.heap.size ≤ b)) ∧
                xs.length = n * Le.ks.length ∧ news.length = l'.length * Le.ks.length ∧ ∀ i j, i < l'.length → j < Le.ks.length → Conc E.I w (news.getD (i * Le.ks.length + j) undef) (elCell l' i j) := by
            intro n xs hown hn hby
            obtain ⟨cs, e5⟩ := builtin_run (P := P) (a := a) ho hc w
            have run : ∀ {x' : Value} {w' : World}, (Builtin.append_ #[t, t] o.type #[x, y]).run P w = .ok x' w' → (execOp a.eval o).run P w = .ok (.value x') w' := fun hh => by
              rw [e5]
              simp [builtin, e1, e2, hh]
            rw [← i2] at hown q3 ⊢
            have nothing : ∀ ad cap, y = .slice ad 0 cap → l' = [] → ∃ x' w' news, (execOp a.eval o).run P w = .ok (.value x') w' ∧ w'.ownsRow 0 et inf.size x' (n + l'.length) (xs ++ news) ∧ w.grownBy w' x.ownBlock ∧ (∀ b, x'.ownBlock = some b → b < w'.heap.size ∧ (x.ownBlock = some b ∨ w.heap.size ≤ b)) ∧
                xs.length = n * inf.size ∧ news.length = l'.length * inf.size ∧ ∀ i j, i < l'.length → j < inf.size → Conc E.I w (news.getD (i * inf.size + j) undef) (elCell l' i j) := by
              intro ad cap ey el
              subst el
              refine ⟨x, w, [], run (by rw [ey]; exact append_none h1 i1 hown), by simpa using hown, ⟨rfl, rfl, rfl, Nat.le_refl _, fun _ _ _ => rfl⟩, fun b hb => ⟨?_, .inl hb⟩, hown.1, by simp, fun i j hi => by simp at hi⟩
              exact (World.ownsRow.lt hown b hb).2
            rcases hcase with ⟨ey, el⟩ | ⟨el, ad, cap, ey⟩ | ⟨b, off, cap, f, ey, hf⟩
            · exact nothing none 0 ey el
            · exact nothing ad cap ey el
            · by_cases hl0 : l' = []
              · exact nothing _ _ (by rw [ey, hl0]; rfl) hl0
              · have hpos : 0 < l'.length := List.length_pos_iff.2 hl0
                obtain ⟨x', w', r1, r2, r3, r4⟩ := append_some (ty := o.type) (ad := ⟨b, off, none⟩) (m := l'.length) (c := cap) (news := cellList inf.size l'.length f) h1 i1 i4 (by omega) hown hpos cellList_length (fun j u hj => by
                  obtain ⟨c1, c2, c3, c4⟩ := cellList_get hj
                  rw [addr_add, c3]
                  have := (hf _ _ c1 (by rw [← i2]; exact c2)).1
                  rw [← i2, Nat.add_assoc, ← c4] at this
                  exact this) (fun u hu => by
                  obtain ⟨j, hj⟩ := List.getElem?_of_mem hu
                  obtain ⟨c1, c2, c3, _⟩ := cellList_get hj
                  rw [c3]
                  have c2' : j % inf.size < Le.ks.length := by rw [← i2]; exact c2
                  exact kOk_one (plainK_get q2 _ c2') (shOk_get hsh c1 c2') (hf _ _ c1 c2').2) hn (by rw [i3]; exact hby)
                exact ⟨x', w', _, run (by rw [ey]; exact r1), r2, r3, r4, hown.1, cellList_length, fun i j hi hj => by rw [cellList_getD hi hj]; exact (hf i j hi (by rw [← i2]; exact hj)).2⟩
          have elcell : ∀ (l : List SV) (xs news : List Value) (w' : World), (∀ i j, i < l.length → j < Le.ks.length → Conc E.I w' (xs.getD (i * Le.ks.length + j) undef) (elCell l i j)) → (∀ i j, i < l'.length → j < Le.ks.length → Conc E.I w' (news.getD (i * Le.ks.length + j) undef) (elCell l' i j)) →
              xs.length = l.length * Le.ks.length → ∀ i j, i < (l ++ l').length → j < Le.ks.length → Conc E.I w' ((xs ++ news).getD (i * Le.ks.length + j) undef) (elCell (l ++ l') i j) := by
            intro l xs news w' c1 c2 c3 i j hi hj
            by_cases hil : i < l.length
            · have hlt : i * Le.ks.length + j < xs.length := by
                rw [c3]
                have : (i + 1) * Le.ks.length ≤ l.length * Le.ks.length := Nat.mul_le_mul_right _ hil
                rw [Nat.add_mul, Nat.one_mul] at this
                omega
              have e3 : (xs ++ news).getD (i * Le.ks.length + j) undef = xs.getD (i * Le.ks.length + j) undef := by simp only [List.getD_eq_getElem?_getD]; rw [List.getElem?_append_left hlt]
              have e4 : elCell (l ++ l') i j = elCell l i j := by simp only [elCell, List.getD_eq_getElem?_getD]; rw [List.getElem?_append_left hil]
              rw [e3, e4]; exact c1 i j hil hj
            · have hge : xs.length ≤ i * Le.ks.length + j := by
                rw [c3]
                have : l.length * Le.ks.length ≤ i * Le.ks.length := Nat.mul_le_mul_right _ (by omega)
                omega
              have e3 : (xs ++ news).getD (i * Le.ks.length + j) undef = news.getD ((i - l.length) * Le.ks.length + j) undef := by
                simp only [List.getD_eq_getElem?_getD]
                rw [List.getElem?_append_right hge, c3]
                congr 2
                rw [Nat.sub_mul]
                have : l.length * Le.ks.length ≤ i * Le.ks.length := Nat.mul_le_mul_right _ (by omega)
                omega
              have e4 : elCell (l ++ l') i j = elCell l' (i - l.length) j := by simp only [elCell, List.getD_eq_getElem?_getD]; rw [List.getElem?_append_right (by omega)]
              rw [e3, e4]; exact c2 _ j (by simp at hi; omega) hj
          have keepI : ∀ {w' : World} {row : Option Nat}, w.grownBy w' row → (∀ k, row = some k → ¬ E.I k) → ∀ {v : Value} {u : SV}, Conc E.I w v u → Conc E.I w' v u := fun hg hrow _ _ hv =>
            hv.mono (fun _ h => h) (fun b hb => hg.block b (h.inew b hb).1 (fun e => hrow b e.symm hb))
          -- onto a slice without room
          have zapp : ∀ {adz : Option Addr}, x = .slice adz 0 0 → l'.length ≤ 1099511627776 → l'.length * Le.bytes ≤ 1099511627776 → (l' = [] ∧ (execOp a.eval o).run P w = .ok (.value x) w) ∨
              ∃ x' w' news, (execOp a.eval o).run P w = .ok (.value x') w' ∧ w'.ownsRow 0 et Le.ks.length x' l'.length news ∧ w.grownBy w' none ∧ (∀ b, x'.ownBlock = some b → b < w'.heap.size ∧ w.heap.size ≤ b) ∧
                ∀ i j, i < l'.length → j < Le.ks.length → Conc E.I w' (news.getD (i * Le.ks.length + j) undef) (elCell l' i j) := by
            intro adz ex hn hby
            obtain ⟨cs, e5⟩ := builtin_run (P := P) (a := a) ho hc w
            have run : ∀ {x' : Value} {w' : World}, (Builtin.append_ #[t, t] o.type #[x, y]).run P w = .ok x' w' → (execOp a.eval o).run P w = .ok (.value x') w' := fun hh => by
              rw [e5]
              simp [builtin, e1, e2, hh]
            have nothing : ∀ ad cap, y = .slice ad 0 cap → l' = [] → (l' = [] ∧ (execOp a.eval o).run P w = .ok (.value x) w) := fun ad cap ey el =>
              ⟨el, run (by rw [ey, ex]; exact append_zero h1 i1)⟩
            rcases hcase with ⟨ey, el⟩ | ⟨el, ad, cap, ey⟩ | ⟨b, off, cap, f, ey, hf⟩
            · exact .inl (nothing none 0 ey el)
            · exact .inl (nothing ad cap ey el)
            · by_cases hl0 : l' = []
              · exact .inl (nothing _ _ (by rw [ey, hl0]; rfl) hl0)
              · refine .inr ?_
                have hnews : ∀ j u, (cellList inf.size l'.length f)[j]? = some u → w.cell? ((⟨b, off, none⟩ : Addr).add j) = some u := fun j u hj => by
                  obtain ⟨c1, c2, c3, c4⟩ := cellList_get hj
                  rw [addr_add, c3]
                  have := (hf _ _ c1 (by rw [← i2]; exact c2)).1
                  rw [← i2, Nat.add_assoc, ← c4] at this
                  exact this
                obtain ⟨x', w', r1, r2, r3, r4⟩ := append_full (P := P) (w := w) (ty := o.type) (ad0 := adz) (ad := ⟨b, off, none⟩) (m := l'.length) (c := cap) (news := cellList inf.size l'.length f) (n := 0) (xs := []) h1 i1 i4 (by omega) (by simp)
                  (by cases adz with
                    | none => exact .inl ⟨rfl, rfl⟩
                    | some b => exact .inr ⟨b, rfl, fun j u hu => by simp at hu⟩) (List.length_pos_iff.2 hl0) cellList_length hnews (by omega) (by rw [i3]; simpa using hby)
                refine ⟨x', w', _, run (by rw [ey, ex]; exact r1), by simpa [i2] using r2, r3, r4, fun i j hi hj => ?_⟩
                rw [← i2, cellList_getD hi (by rw [i2]; exact hj)]
                exact keepI r3 (fun k hk => by cases hk) (hf i j hi hj).2
          split at hob
          · -- onto nil
            simp only at hK
            have hnil := hx.inv_nilsl
            cases hdst : o.dst with
            | none => simp only [hdst] at hob; exact hob.elim
            | some d =>
              simp only [hdst] at hob hK
              cases hfree : lkO s.mem (cx.off + d) with
              | some _ => simp only [hfree] at hob; exact hob.elim
              | none =>
                simp only [hfree] at hob hK
                obtain ⟨⟨b1, b2⟩⟩ := hob
                obtain ⟨x', w', news, r1, r2, r3, r4, r5, r6, r7⟩ := main 0 [] (by rw [hnil]; exact World.ownsRow_nil w 0 et _) (by omega) (by simpa using b1)
                simp only [Nat.zero_add, List.nil_append] at r2
                have hob0 : x.ownBlock = none := by rw [hnil]; rfl
                unfold Oper.wp
                rw [r1]
                refine hK (E.withRow (cx.off + d) x') _ _ ?_
                rw [hdst]
                exact h.row rfl (fun _ => rfl) (.inl ⟨hfree, hob0⟩) r3 (fun k hk => by rw [hob0] at hk; cases hk) (fun b hb => ⟨(r4 b hb).1, .inr (by have := (r4 b hb).2; rw [hob0] at this; simpa using this)⟩) hsh r2
                  (fun i j hi hj => keepI r3 (fun k hk => by rw [hob0] at hk; cases hk) (r7 i j hi hj)) (fun k hk => dOk_lt hd k (by rw [hdst]; exact hk))
          · -- onto a slice of its own
            rename_i c0 ver
            simp only at hK
            cases hm : lkO s.mem c0 with
            | none => simp only [hm] at hob; exact hob.elim
            | some ch =>
              simp only [hm] at hob hK
              cases ch <;> simp only at hob hK <;> try exact hob.elim
              rename_i v2 e' ks l
              cases hq2 : (Nat.beq v2 ver && Nat.beq et e' && cksEq ks Le.ks && !(rd'.contains c0)) with
              | false => simp only [hq2] at hob; exact hob.elim
              | true =>
                simp only [hq2] at hob hK
                simp only [Bool.and_eq_true] at hq2
                obtain ⟨⟨⟨p1, p2⟩, p3⟩, p4⟩ := hq2
                have p1 := Nat.eq_of_beq_eq_true p1
                have p2 := Nat.eq_of_beq_eq_true p2
                have p3 := cksEq_eq _ _ p3
                subst p1 p2 p3
                obtain ⟨⟨b1, b2⟩⟩ := hob
                have hc0 := h.ch c0
                rw [hm] at hc0
                obtain ⟨v', g1, g2⟩ := hx.inv_osl
                rw [hm] at g1
                simp only [verOf, Option.some.injEq] at g1
                have hxe := g2 g1
                obtain ⟨t1, ⟨t2, xs, t3, t4⟩ | ⟨z1, z2, adz, z3⟩⟩ := hc0
                rotate_left
                · rw [← hxe] at z3
                  subst z1
                  obtain ⟨r1, r2⟩ | ⟨x', w', news, r1, r2, r3, r4, r5⟩ := zapp z3 (by simpa using b2) (by simpa using b1)
                  · unfold Oper.wp
                    rw [r2, z3]
                    refine hK (E.withRow c0 (.slice adz 0 0)) _ _ ?_
                    exact h.rowZ (.inr ⟨v2, by rw [hm]; rfl, Nat.lt_succ_self _⟩) (by rw [r1]; rfl) (dOk_lt hd)
                  · unfold Oper.wp
                    rw [r1]
                    refine hK (E.withRow c0 x') _ _ ?_
                    exact h.row (row := none) rfl (fun _ => rfl) (.inr ⟨v2, by rw [hm]; rfl, Nat.lt_succ_self _⟩) r3 (fun k hk => by cases hk) (fun b hb => ⟨(r4 b hb).1, .inr (r4 b hb).2⟩) (fun e he => hsh e (by simpa using he)) (by simpa using r2)
                      (fun i j hi hj => by simpa using r5 i j (by simpa using hi) hj) (dOk_lt hd)
                rw [← hxe] at t2 t3
                obtain ⟨x', w', news, r1, r2, r3, r4, r5, r6, r7⟩ := main l.length xs t3 b2 b1
                unfold Oper.wp
                rw [r1]
                have hnI : ∀ k, x.ownBlock = some k → ¬ E.I k := fun k hk => (h.loc c0 k (t2.trans hk)).2.1
                refine hK (E.withRow c0 x') _ _ ?_
                exact h.row rfl (fun _ => rfl) (.inr ⟨v2, by rw [hm]; rfl, Nat.lt_succ_self _⟩) r3 (fun k hk => t2.trans hk) (fun b hb => ⟨(r4 b hb).1, by
                  rcases (r4 b hb).2 with q | q
                  · exact .inl ⟨by rw [hm]; simp, t2.trans q⟩
                  · exact .inr q⟩) (fun e he => (List.mem_append.1 he).elim (t1 e) (hsh e)) (by rw [List.length_append]; exact r2)
                  (elcell l xs news w' (fun i j hi hj => keepI r3 hnI (t4 i j hi hj)) (fun i j hi hj => keepI r3 hnI (r7 i j hi hj)) r5) (dOk_lt hd)
          · -- onto a full slice
            rename_i ks l
            simp only at hK
            cases hdst : o.dst with
            | none => simp only [hdst] at hob; exact hob.elim
            | some d =>
              cases hq3 : cksEq ks Le.ks with
              | false => simp only [hdst, hq3] at hob; exact hob.elim
              | true =>
                simp only [hdst, hq3] at hob hK
                have hq3 := cksEq_eq _ _ hq3
                subst hq3
                cases hn : nextV (lkO s.mem (cx.off + d)) with
                | none => simp only [hn] at hob; exact hob.elim
                | some ver =>
                  simp only [hn] at hob hK
                  obtain ⟨⟨b0, b1, b2⟩⟩ := hob
                  obtain ⟨ad0, ex, hsl⟩ := hx.inv_fsl
                  have hc1 : lkO s.mem (cx.off + d) = none ∨ ∃ v, verOf (lkO s.mem (cx.off + d)) = some v ∧ v < ver := by
                    cases hm : lkO s.mem (cx.off + d) with
                    | none => exact .inl rfl
                    | some ch =>
                      rw [hm] at hn
                      cases ch <;> simp only [nextV, Option.some.injEq, reduceCtorEq] at hn
                      · exact .inr ⟨_, rfl, by omega⟩
                      · exact .inr ⟨_, rfl, by omega⟩
                  by_cases hl00 : l' = []
                  · have e0 : l = [] := by
                      rcases b0 with b0 | b0
                      · exact b0
                      · rw [hl00] at b0; simp at b0
                    subst e0
                    have ex : x = .slice ad0 0 0 := ex
                    obtain ⟨r1, r2⟩ | ⟨x', w', news, r1, r2, r3, r4, r5⟩ := zapp ex (by rw [hl00]; simp) (by rw [hl00]; simp)
                    · unfold Oper.wp
                      rw [r2, ex]
                      refine hK (E.withRow (cx.off + d) (.slice ad0 0 0)) _ _ ?_
                      rw [hdst]
                      exact h.rowZ hc1 (by rw [r1]; rfl) (fun k hk => dOk_lt hd k (by rw [hdst]; exact hk))
                    · have : w'.ownsRow 0 et Le.ks.length x' 0 news := by rw [hl00] at r2; exact r2
                      unfold Oper.wp
                      rw [r1]
                      refine hK (E.withRow (cx.off + d) x') _ _ ?_
                      rw [hdst]
                      exact h.row (row := none) rfl (fun _ => rfl) (hc1.imp (fun h => ⟨h, rfl⟩) (fun h => h)) r3 (fun k hk => by cases hk) (fun b hb => ⟨(r4 b hb).1, .inr (r4 b hb).2⟩) (fun e he => hsh e (by simpa using he)) (by simpa using r2)
                        (fun i j hi hj => by simpa using r5 i j (by simpa using hi) hj) (fun k hk => dOk_lt hd k (by rw [hdst]; exact hk))
                  have b0 : 0 < l'.length := List.length_pos_iff.2 hl00
                  have hl0 : l' ≠ [] := List.length_pos_iff.1 b0
                  obtain ⟨b, off, cap, f, ey, hf⟩ : ∃ (b off cap : Nat) (f : Nat → Nat → Value), y = .slice (some ⟨b, off, none⟩) l'.length cap ∧
                      ∀ i j, i < l'.length → j < Le.ks.length → w.cell? ⟨b, off + i * Le.ks.length + j, none⟩ = some (f i j) ∧ Conc E.I w (f i j) (elCell l' i j) := by
                    rcases hcase with ⟨_, el⟩ | ⟨el, _⟩ | hh
                    · exact (hl0 el).elim
                    · exact (hl0 el).elim
                    · exact hh
                  obtain ⟨xs, hxs, hold, hxc, hshl⟩ : ∃ xs : List Value, xs.length = l.length * Le.ks.length ∧ ((l.length = 0 ∧ ad0 = none) ∨ ∃ b, ad0 = some b ∧ ∀ j u, xs[j]? = some u → w.cell? (b.add j) = some u) ∧
                      (∀ i j, i < l.length → j < Le.ks.length → Conc E.I w (xs.getD (i * Le.ks.length + j) undef) (elCell l i j)) ∧ (∀ e, e ∈ l → shOk Le.ks e) := by
                    obtain ⟨hsh', hcs'⟩ := rowOf_cells (ks := Le.ks) (l := l) (rd := []) h.ch hx rfl
                    rw [ex] at hcs'
                    rcases hcs' with ⟨e6, e7⟩ | ⟨e7, _⟩ | ⟨b', off', cap', g, e6, hg⟩
                    · subst e7
                      refine ⟨[], by simp, .inl ⟨rfl, by simpa using e6⟩, fun i j hi => by simp at hi, hsh'⟩
                    · subst e7
                      refine ⟨[], by simp, ?_, fun i j hi => by simp at hi, hsh'⟩
                      cases ad0 with
                      | none => exact .inl ⟨rfl, rfl⟩
                      | some b => exact .inr ⟨b, rfl, fun j u hu => by simp at hu⟩
                    · simp only [Value.slice.injEq, true_and] at e6
                      refine ⟨cellList Le.ks.length l.length g, cellList_length, .inr ⟨_, e6.1, fun j u hj => ?_⟩, fun i j hi hj => by rw [cellList_getD hi hj]; exact (hg i j hi hj).2, hsh'⟩
                      obtain ⟨c1, c2, c3, c4⟩ := cellList_get hj
                      rw [addr_add, c3]
                      have := (hg _ _ c1 c2).1
                      rw [Nat.add_assoc, ← c4] at this
                      exact this
                  have hnews : ∀ j u, (cellList Le.ks.length l'.length f)[j]? = some u → w.cell? ((⟨b, off, none⟩ : Addr).add j) = some u := fun j u hj => by
                    obtain ⟨c1, c2, c3, c4⟩ := cellList_get hj
                    rw [addr_add, c3]
                    have := (hf _ _ c1 c2).1
                    rw [Nat.add_assoc, ← c4] at this
                    exact this
                  obtain ⟨x', w', r1, r2, r3, r4⟩ := append_full (P := P) (w := w) (ty := o.type) (ad0 := ad0) (ad := ⟨b, off, none⟩) (m := l'.length) (c := cap) (news := cellList Le.ks.length l'.length f) (n := l.length) (xs := xs) h1 i1 i4 (by omega) (by rw [i2]; exact hxs) hold b0 (by rw [i2]; exact cellList_length) hnews b2 (by rw [i3]; exact b1)
                  obtain ⟨cs, e5⟩ := builtin_run (P := P) (a := a) ho hc w
                  have hrun : (execOp a.eval o).run P w = .ok (.value x') w' := by
                    rw [e5]
                    simp [builtin, e1, e2, ex, ey, r1]
                  unfold Oper.wp
                  rw [hrun]
                  refine hK (E.withRow (cx.off + d) x') _ _ ?_
                  rw [hdst]
                  rw [i2] at r2
                  have hno : ∀ k, (none : Option Nat) = some k → ¬ E.I k := fun k hk => by cases hk
                  exact h.row (row := none) rfl (fun _ => rfl) (hc1.imp (fun h => ⟨h, rfl⟩) (fun h => h)) r3 (fun k hk => by cases hk) (fun b hb => ⟨(r4 b hb).1, .inr (r4 b hb).2⟩) (fun e he => (List.mem_append.1 he).elim (hshl e) (hsh e)) (by rw [List.length_append]; exact r2)
                    (elcell l xs _ w' (fun i j hi hj => keepI r3 hno (hxc i j hi hj)) (fun i j hi hj => keepI r3 hno (by rw [cellList_getD hi hj]; exact (hf i j hi hj).2)) hxs) (fun k hk => dOk_lt hd k (by rw [hdst]; exact hk))
          · exact hob.elim
    · exact hob.elim
  · exact hob.elim
end
end Go.Rx

