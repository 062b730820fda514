/- The framework, part 7: stores, addresses, arithmetic, comparisons. -/
import Derived.Test.YtkmiakgpkgmcbaaFw6
namespace Go.Rx
set_option linter.unusedSectionVars false
open Go.RowKit

section
variable {cx : Cx} {P : Program} [Laid P] {B : Nat} {M I0 : Nat → Prop} {G : Nat → Value} {w0 : World} {E : Env} {s : St} {a : Act} {w : World} {o : Oper} {K : Act → World → Prop} {Q : Exit → Act → World → Prop}

theorem setL_length : ∀ (vs cs : List SV) (off : Nat), (setL cs off vs).length = cs.length
  | [], _, _ => rfl
  | v :: r, cs, off => by simp [setL, setL_length r]
theorem setL_getD : ∀ (vs cs : List SV) (off i : Nat), off + vs.length ≤ cs.length → (setL cs off vs).getD i .any = if off ≤ i ∧ i < off + vs.length then vs.getD (i - off) .any else cs.getD i .any
  | [], cs, off, i, _ => by simp only [setL, List.length_nil]; rw [if_neg (by omega)]
  | v :: r, cs, off, i, h => by
    simp only [List.length_cons] at h
    rw [setL, setL_getD r _ _ _ (by simp; omega)]
    by_cases h1 : i = off
    · subst h1
      rw [if_neg (by omega), if_pos (by simp)]
      simp only [List.getD_eq_getElem?_getD, List.getElem?_set]
      have : i < cs.length := by omega
      simp [this]
    · by_cases h2 : off + 1 ≤ i ∧ i < off + 1 + r.length
      · rw [if_pos h2, if_pos (by simp; omega)]
        have : i - off = (i - (off + 1)) + 1 := by omega
        rw [this, List.getD_cons_succ]
      · rw [if_neg h2, if_neg (by simp; omega)]
        simp only [List.getD_eq_getElem?_getD, List.getElem?_set]
        rw [if_neg (by omega)]

/-- Memory of the function's own is written. -/
theorem Rel.store (h : Rel P cx.nt B M I0 G w0 E s a w) {c b t : Nat} {cs : List SV} (hro : roK c = false) (hm : lkO s.mem c = some (.box t cs)) (hl : E.loc c = some b) {xs : Array Value} {cs' : List SV} (hs : xs.size = cs'.length)
    (hx : ∀ i, CV E (lkO s.mem) w (xs.getD i undef) (cs'.getD i .any)) {d : Option Nat} (hd : ∀ k, d = some k → k < cx.nt) {x : Value} {v : SV} (hv : CV E (lkO s.mem) w x v) {w' : World}
    (hb : w'.heap[b]? = some (.cells xs t (0, 0))) (ho : ∀ k, k ≠ b → w'.heap[k]? = w.heap[k]?) (hsz : w'.heap.size = w.heap.size) (hos : w'.os = w.os ∧ w'.tape = w.tape ∧ w'.output = w.output) :
    Rel P cx.nt B M I0 G w0 E (upd s d v [(c, .box t cs')]) (a.put d x) w' := by
  obtain ⟨hbs, hbI, hbM⟩ := h.loc c b hl
  have hlk : ∀ k, lkO ([(c, Chunk.box t cs')] ++ s.mem) k = if c = k then some (.box t cs') else lkO s.mem k := fun k => by rw [List.singleton_append, lkO_cons]
  have hI : ∀ k, E.I k → w'.heap[k]? = w.heap[k]? := fun k hk => ho k (fun e => hbI (e ▸ hk))
  have hmm : ∀ y u, CV E (lkO s.mem) w y u → CV E (lkO ([(c, Chunk.box t cs')] ++ s.mem)) w' y u := fun y u hy => by
    refine CV.mono (E := E) (m := lkO s.mem) (w := w) (fun _ h => h) hI (fun k t' cs0 b' h1 h2 => ⟨?_, h2⟩) (hq_of fun k b' h1 h2 => ⟨?_, h2⟩) (fun k v' h1 => ?_) hy
    · rw [hlk]
      by_cases e : c = k
      · rw [if_pos e]; exact ⟨t, cs', rfl⟩
      · rw [if_neg e]; exact ⟨t', cs0, h1⟩
    · have hk : ¬ c = k := fun e => by subst e; exact isPt_box h1 hm
      rw [hlk, if_neg hk]
    · have hk : ¬ c = k := fun e => by subst e; rw [hm] at h1; simp [verOf] at h1
      exact ⟨v', by rw [hlk, if_neg hk]; exact h1, Nat.le_refl _, fun _ => ⟨rfl, fun _ h => h⟩⟩
  refine h.next hd ⟨hos.1, hos.2.1, hos.2.2, by omega, fun k hk hM => ho k (fun e => ?_)⟩ (fun _ h => h) (fun k hk => ⟨by have := (h.inew k hk).1; omega, (h.inew k hk).2⟩)
    (fun k b' hk => ?_) h.inj hmm (hmm _ _ hv) (fun k => ?_)
  · subst e
    rcases hbM with h1 | h1 | ⟨h1, _⟩
    · omega
    · exact hM h1
    · rw [hro] at h1; cases h1
  · obtain ⟨k1, k2, k3⟩ := h.loc k b' hk
    refine ⟨by omega, k2, ?_⟩
    rw [hlk]
    by_cases e : c = k
    · rw [if_pos e]
      subst e
      rcases k3 with k3 | k3 | k3
      · exact .inl k3
      · exact .inr (.inl k3)
      · exact .inr (.inr ⟨k3.1, rfl⟩)
    · rw [if_neg e]; exact k3
  · rw [hlk]
    by_cases e : c = k
    · subst e
      rw [if_pos rfl]
      exact ⟨b, xs, hl, hb, hs, fun i => hmm _ _ (hx i)⟩
    · rw [if_neg e]
      exact ChR.mono (E := E) (m := lkO s.mem) (w := w) (fun _ h => h) hI hmm rfl rfl (fun b' hb' => ho b' (fun e' => e (h.inj c k b hl (e' ▸ hb')))) (h.ch k)

theorem setRow_other (w : World) (g : Nat) (cs : Array Value) (k : Nat) (h : k ≠ g) : (w.setRow g cs).heap[k]? = w.heap[k]? := by
  simp only [World.setRow, Array.getElem?_modify]
  rw [if_neg (fun e => h e.symm)]

theorem storeRow_getD (xs ys : Array Value) (off i : Nat) (h : off + ys.size ≤ xs.size) :
    ((xs.toList.take off ++ ys.toList ++ xs.toList.drop (off + ys.size)).toArray).getD i undef = if off ≤ i ∧ i < off + ys.size then ys.getD (i - off) undef else xs.getD i undef := by
  simp only [Array.getD_eq_getD_getElem?, List.getElem?_toArray, List.getElem?_append, List.length_append, List.length_take, Array.length_toList, List.getElem?_take, List.getElem?_drop, Array.getElem?_toList]
  by_cases h1 : i < off
  · have e1 : i < min off xs.size + ys.size := by omega
    have e2 : i < min off xs.size := by omega
    have e3 : ¬ (off ≤ i ∧ i < off + ys.size) := by omega
    rw [if_pos e1, if_pos e2, if_pos h1, if_neg e3]
  · by_cases h2 : i < off + ys.size
    · have e1 : i < min off xs.size + ys.size := by omega
      have e2 : ¬ i < min off xs.size := by omega
      have e3 : off ≤ i ∧ i < off + ys.size := by omega
      rw [if_pos e1, if_neg e2, if_pos e3]
      have : min off xs.size = off := by omega
      rw [this]
    · have e1 : ¬ i < min off xs.size + ys.size := by omega
      have e3 : ¬ (off ≤ i ∧ i < off + ys.size) := by omega
      rw [if_neg e1, if_neg e3]
      have : off + ys.size + (i - (min off xs.size + ys.size)) = i := by omega
      rw [this]

theorem set_getD {l : List SV} {i j : Nat} (hj : j < l.length) {x : SV} : (l.set i x).getD j .any = if i = j then x else l.getD j .any := by
  rw [List.getD_eq_getElem?_getD, List.getElem?_set]
  by_cases e : i = j
  · subst e; rw [if_pos rfl, if_pos hj, if_pos rfl]; rfl
  · rw [if_neg e, if_neg e, ← List.getD_eq_getElem?_getD]

theorem kB_ok7 {k : CK} {v : SV} (h : kB k v = true) : kOk k v ∧ closed v = true ∧ v.cells = [v] := by
  cases k <;> cases v <;> simp only [kB, reduceCtorEq, decide_eq_true_eq] at h
  · subst h; exact ⟨⟨_, rfl⟩, rfl, rfl⟩
  · exact ⟨.inr (.inr ⟨_, rfl⟩), rfl, rfl⟩
  · exact ⟨.inl rfl, rfl, rfl⟩
  · exact ⟨.inr (.inl rfl), rfl, rfl⟩
  · exact ⟨⟨_, rfl⟩, rfl, rfl⟩
  · exact ⟨⟨_, rfl⟩, rfl, rfl⟩
  · exact ⟨⟨_, _, rfl⟩, rfl, rfl⟩
  · rw [← cksEq_eq _ _ h]; exact ⟨.inr ⟨_, rfl⟩, rfl, rfl⟩
  · exact ⟨.inl rfl, rfl, rfl⟩

theorem kBs_get7 : ∀ {ks : List CK} {cs : List SV}, kBs ks cs = true → cs.length = ks.length ∧ ∀ j, j < ks.length → kB (ks.getD j .other) (cs.getD j .any) = true
  | [], [], _ => ⟨rfl, fun j hj => by simp at hj⟩
  | k :: ks, v :: cs, h => by
    simp only [kBs, Bool.and_eq_true] at h
    obtain ⟨h1, h2⟩ := kBs_get7 h.2
    refine ⟨by simp [h1], fun j hj => ?_⟩
    cases j with
    | zero => exact h.1
    | succ j => simpa using h2 j (by simpa using hj)
  | [], _ :: _, h => by cases h
  | _ :: _, [], h => by cases h

theorem stEl_cells {sz : Nat} {e : SV} {off : Nat} {vs : List SV} (he : e.cells.length = sz) (ho : off + vs.length ≤ sz) (h0 : 0 < vs.length) (hv : ∀ j, j < vs.length → (vs.getD j .any).cells = [vs.getD j .any]) : (stEl sz e off vs).cells = setL e.cells off vs := by
  unfold stEl
  split
  · rename_i h1
    have h1 := Nat.eq_of_beq_eq_true h1
    subst h1
    have o0 : off = 0 := by omega
    subst o0
    match vs, h0, ho, hv with
    | [v], _, _, hv =>
      have := hv 0 (by simp)
      rw [this]
      obtain ⟨u, hu⟩ := List.length_eq_one_iff.1 he
      rw [hu]; rfl
  · rfl

/-- A row of the function's own is written. -/
theorem Rel.storeRow (h : Rel P cx.nt B M I0 G w0 E s a w) {c g e v : Nat} {ks : List CK} {l l' : List SV} (hm : lkO s.mem c = some (.row v e ks l)) (hl : E.loc c = some g) {w' : World}
    (ho : ∀ k, k ≠ g → w'.heap[k]? = w.heap[k]?) (hsz : w'.heap.size = w.heap.size) (hos : w'.os = w.os ∧ w'.tape = w.tape ∧ w'.output = w.output) (hrow : RowR E w' c e ks l')
    {d : Option Nat} (hd : ∀ k, d = some k → k < cx.nt) {x : Value} {u : SV} (hu : CV E (lkO s.mem) w x u) :
    Rel P cx.nt B M I0 G w0 E (upd s d u [(c, .row v e ks l')]) (a.put d x) w' := by
  obtain ⟨hbs, hbI, hbM⟩ := h.loc c g hl
  have hB : B ≤ g ∨ M g := by
    rcases hbM with h1 | h1 | ⟨_, h1⟩
    · exact .inl h1
    · exact .inr h1
    · rw [hm] at h1; simp [verOf] at h1
  have hlk : ∀ k, lkO ([(c, Chunk.row v e ks l')] ++ s.mem) k = if c = k then some (.row v e ks l') else lkO s.mem k := fun k => by rw [List.singleton_append, lkO_cons]
  have hI : ∀ k, E.I k → w'.heap[k]? = w.heap[k]? := fun k hk => ho k (fun e => hbI (e ▸ hk))
  have hmm : ∀ y u, CV E (lkO s.mem) w y u → CV E (lkO ([(c, Chunk.row v e ks l')] ++ s.mem)) w' y u := fun y u hy => by
    refine CV.mono (E := E) (m := lkO s.mem) (w := w) (fun _ h => h) hI (fun k t' cs0 b' h1 h2 => ⟨?_, h2⟩) (hq_of fun k b' h1 h2 => ⟨?_, h2⟩) (fun k v' h1 => ?_) hy
    · have hk : ¬ c = k := fun e => by subst e; rw [hm] at h1; cases h1
      exact ⟨t', cs0, by rw [hlk, if_neg hk]; exact h1⟩
    · have hk : ¬ c = k := fun e => by subst e; exact isPt_row h1 hm
      rw [hlk, if_neg hk]
    · by_cases e : c = k
      · subst e
        rw [hm] at h1
        simp only [verOf, Option.some.injEq] at h1
        subst h1
        exact ⟨v, by rw [hlk, if_pos rfl]; rfl, Nat.le_refl _, fun _ => ⟨rfl, fun _ h => h⟩⟩
      · exact ⟨v', by rw [hlk, if_neg e]; exact h1, Nat.le_refl _, fun _ => ⟨rfl, fun _ h => h⟩⟩
  refine h.next hd ⟨hos.1, hos.2.1, hos.2.2, by omega, fun k hk hM => ho k (fun e => hB.elim (fun _ => by omega) (fun h2 => hM (e ▸ h2)))⟩ (fun _ h => h) (fun k hk => ⟨by have := (h.inew k hk).1; omega, (h.inew k hk).2⟩)
    (fun k b' hk => ?_) h.inj hmm (hmm _ _ hu) (fun k => ?_)
  · obtain ⟨k1, k2, k3⟩ := h.loc k b' hk
    refine ⟨by omega, k2, ?_⟩
    rw [hlk]
    by_cases e : c = k
    · subst e
      rw [hl] at hk
      cases hk
      exact hB.imp id .inl
    · rw [if_neg e]; exact k3
  · rw [hlk]
    by_cases e : c = k
    · subst e
      rw [if_pos rfl]
      exact hrow
    · rw [if_neg e]
      exact ChR.mono (E := E) (m := lkO s.mem) (w := w) (fun _ h => h) hI hmm rfl rfl (fun b' hb' => ho b' (fun e' => e (h.inj c k g hl (e' ▸ hb')))) (h.ch k)

theorem TkOk_struct {d : TypeDesc} {fl : List (Nat × Nat)} (h : TkOk P d (.struct fl)) : ∃ fs, d = .struct fs ∧ fs.size = fl.length ∧
    ∀ (i : Nat) (f : Field), fs[i]? = some f → fl[i]? = some (f.offset, f.type) ∧ ∃ inf, P.info? f.type = some inf ∧ inf.size ≠ 0 := by
  cases d <;> first | exact ⟨_, rfl, h.1, h.2⟩ | exact h.elim
theorem TkOk_arr {d : TypeDesc} {n e : Nat} (h : TkOk P d (.arr n e)) : d = .array n e := by
  cases d <;> first | (obtain ⟨rfl, rfl⟩ := h; rfl) | exact h.elim
theorem TkOk_sl {d : TypeDesc} {e : Nat} (h : TkOk P d (.sl e)) : d = .slice e := by
  cases d <;> first | (cases h; rfl) | exact h.elim
theorem TkOk_ptr {d : TypeDesc} {e : Nat} (h : TkOk P d (.ptr e)) : d = .pointer e := by
  cases d <;> first | (cases h; rfl) | exact h.elim
theorem TkOk_int {d : TypeDesc} {k : IntKind} (h : TkOk P d (.int k)) : d = .int k := by
  cases d <;> first | (cases h; rfl) | exact h.elim
theorem TkOk_flt {d : TypeDesc} (h : TkOk P d .flt) : d = .float .f64 := by
  cases d <;> simp_all [TkOk]
theorem TkOk_bool {d : TypeDesc} (h : TkOk P d .bool) : d = .bool := by
  cases d <;> first | rfl | exact h.elim
theorem TkOk_str {d : TypeDesc} (h : TkOk P d .str) : d = .string := by
  cases d <;> first | rfl | exact h.elim

theorem run_field (hP : CxOk P cx) {t f fo : Nat} (hf : fieldOff cx t f = some fo) (b off : Nat) (w : World) : (Instr.fieldAt t (.pointer (some ⟨b, off, none⟩)) f).run P w = .ok (.pointer (some ⟨b, off + fo, none⟩)) w := by
  unfold fieldOff at hf
  cases ht : tyOf cx t with
  | none => rw [ht] at hf; cases hf
  | some L =>
    rw [ht] at hf
    obtain ⟨d, h1, h2⟩ := (tyRun hP ht).desc
    cases hk : L.k with
    | struct fl =>
      simp only [hk] at hf h2
      obtain ⟨fs, rfl, h3, h4⟩ := TkOk_struct h2
      cases hq : fl[f]? with
      | none => rw [hq] at hf; cases hf
      | some p =>
        obtain ⟨o', ft⟩ := p
        rw [hq] at hf
        cases hf
        have hlt : f < fs.size := by have := (List.getElem?_eq_some_iff.1 hq).1; omega
        have hfs : fs[f]? = some fs[f] := Array.getElem?_eq_getElem hlt
        obtain ⟨h5, inf, h6, h7⟩ := h4 f _ hfs
        rw [hq] at h5
        simp only [Option.some.injEq, Prod.mk.injEq] at h5
        simp [Instr.fieldAt, run_underlying h1, hfs, Instr.sureAddr, fieldPlace, run_size h6, h7, addr_add, h5.1]
    | _ => simp only [hk] at hf; cases hf

theorem ep_add {I : Nat → Prop} {x : Value} {ks : List CK} {l : List SV} {i q : Nat} (h : Conc I w x (.ep ks l i q)) : ∃ b p, x = .pointer (some ⟨b, p, none⟩) ∧ ∀ d, Conc I w (.pointer (some ⟨b, p + d, none⟩)) (.ep ks l i (q + d)) := by
  cases h with
  | ep b o' _ _ _ _ x hb hi hsh hx hc => exact ⟨b, o' + i * ks.length + q, rfl, fun d => by rw [Nat.add_assoc]; exact .ep b o' ks l i (q + d) x hb hi hsh hx hc⟩

theorem sound_fieldAddr (hP : CxOk P cx) {t f : Nat} {y : Operand} (ho : o.op = .fieldAddr t y f) : Sound cx P o := by
  intro B M I0 G w0 E s a w K Q h hd hob hK
  have e : opx cx s.mem (ev s.tm) o = opE cx s.mem (ev s.tm) o.dst (.fieldAddr t y f) := by simp [opx, ho]
  rw [e] at hob hK
  simp only [opE] at hob hK
  have hy := h.eval y
  cases hf : fieldOff cx t f with
  | none => simp only [hf] at hob; exact hob.elim
  | some fo =>
    cases hv : ev s.tm y with
    | ptr c off =>
      rw [hv] at hy
      simp only [hf, hv] at hK
      obtain ⟨b, bt, cs, e1, hm, hl⟩ := hy.inv_ptr
      exact op_val h hd (x := .pointer (some ⟨b, off + fo, none⟩)) (by simp [execOp, ho, e1, run_field hP hf]) (.ptr c _ b bt cs hm hl) hK
    | ptx c off =>
      rw [hv] at hy
      simp only [hf, hv] at hK
      obtain ⟨b, bt, cs, e1, hm, hl⟩ := hy.inv_ptx
      exact op_val h hd (x := .pointer (some ⟨b, off + fo, none⟩)) (by simp [execOp, ho, e1, run_field hP hf]) (.ptx c _ b bt cs hm hl) hK
    | ep ks l i off =>
      rw [hv] at hy
      simp only [hf, hv] at hK
      obtain ⟨b, p, e1, hadd⟩ := ep_add hy.inv_ep
      exact op_val h hd (x := .pointer (some ⟨b, p + fo, none⟩)) (by simp [execOp, ho, e1, run_field hP hf]) (.conc _ _ (hadd fo)) hK
    | rptr c sz i off ver =>
      rw [hv] at hy
      simp only [hf, hv] at hob hK
      cases hm : lkO s.mem c with
      | none => simp only [hm] at hob; exact hob.elim
      | some ch =>
        cases ch with
        | gh => simp only [hm] at hob; exact hob.elim
        | mp => simp only [hm] at hob; exact hob.elim
        | it => simp only [hm] at hob; exact hob.elim
        | row v e ks l =>
          simp only [hm] at hob hK
          cases hq : Nat.beq v ver with
          | false => simp only [hq] at hob; exact hob.elim
          | true =>
            simp only [hq] at hob hK
            have q1 := Nat.eq_of_beq_eq_true hq
            obtain ⟨hi⟩ := hob
            have hrow : RowR E w c e ks l := by have := h.ch c; rw [hm] at this; exact this
            obtain ⟨g, cap, hl, _, _⟩ := hrow.cells (by omega)
            obtain ⟨v', e1, e2, e3⟩ := hy.inv_rptr
            have e1' := e1
            rw [hm] at e1
            simp only [verOf, Option.some.injEq] at e1
            have e4 := e3 (by omega) g hl
            refine op_val h hd (x := .pointer (some ⟨g, i * sz + off + fo, none⟩)) (by simp [execOp, ho, e4, run_field hP hf]) (.rptr _ c sz i _ ver v' e1' e2 (fun _ b hb => ?_)) hK
            rw [hl] at hb
            cases hb
            rw [Nat.add_assoc]
        | box => simp only [hm] at hob; exact hob.elim
        | froz => simp only [hm] at hob; exact hob.elim
    | _ => simp only [hf, hv] at hob; exact hob.elim
end
end Go.Rx

