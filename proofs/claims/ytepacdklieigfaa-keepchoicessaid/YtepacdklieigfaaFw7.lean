/- The framework, part 7: stores, addresses, arithmetic, comparisons. -/
import Derived.Test.YtepacdklieigfaaFw6
namespace Go.Rx
set_option linter.unusedSectionVars false
open Go.RowKit

section
variable {cx : Cx} {P : Program} [Laid P] {B : Nat} {M I0 : Nat → Prop} {G : Nat → Value} {w0 : World} {E : Env} {s : St} {a : Act} {w : World} {o : Oper} {K : Act → World → Prop} {Q : Exit → Act → World → Prop}

theorem setL_length : ∀ (vs cs : List SV) (off : Nat), (setL cs off vs).length = cs.length
  | [], _, _ => rfl
  | v :: r, cs, off => by simp [setL, setL_length r]
theorem setL_getD : ∀ (vs cs : List SV) (off i : Nat), off + vs.length ≤ cs.length → (setL cs off vs).getD i .any = if off ≤ i ∧ i < off + vs.length then vs.getD (i - off) .any else cs.getD i .any
  | [], cs, off, i, _ => by simp only [setL, List.length_nil]; rw [if_neg (by omega)]
  | v :: r, cs, off, i, h => by
    simp only [List.length_cons] at h
    rw [setL, setL_getD r _ _ _ (by simp; omega)]
    by_cases h1 : i = off
    · subst h1
      rw [if_neg (by omega), if_pos (by simp)]
      simp only [List.getD_eq_getElem?_getD, List.getElem?_set]
      have : i < cs.length := by omega
      simp [this]
    · by_cases h2 : off + 1 ≤ i ∧ i < off + 1 + r.length
      · rw [if_pos h2, if_pos (by simp; omega)]
        have : i - off = (i - (off + 1)) + 1 := by omega
        rw [this, List.getD_cons_succ]
      · rw [if_neg h2, if_neg (by simp; omega)]
        simp only [List.getD_eq_getElem?_getD, List.getElem?_set]
        rw [if_neg (by omega)]

/-- Memory of the function's own is written. -/
theorem Rel.store (h : Rel P cx.nt B M I0 G w0 E s a w) {c b t : Nat} {cs : List SV} (hm : lkO s.mem c = some (.box t cs)) (hl : E.loc c = some b) {xs : Array Value} {cs' : List SV} (hs : xs.size = cs'.length)
    (hx : ∀ i, CV E (lkO s.mem) w (xs.getD i undef) (cs'.getD i .any)) {d : Option Nat} (hd : ∀ k, d = some k → k < cx.nt) {x : Value} {v : SV} (hv : CV E (lkO s.mem) w x v) {w' : World}
    (hb : w'.heap[b]? = some (.cells xs t (0, 0))) (ho : ∀ k, k ≠ b → w'.heap[k]? = w.heap[k]?) (hsz : w'.heap.size = w.heap.size) (hos : w'.os = w.os ∧ w'.tape = w.tape ∧ w'.output = w.output) :
    Rel P cx.nt B M I0 G w0 E (upd s d v [(c, .box t cs')]) (a.put d x) w' := by
  obtain ⟨hbs, hbI, hbM⟩ := h.loc c b hl
  have hlk : ∀ k, lkO ([(c, Chunk.box t cs')] ++ s.mem) k = if c = k then some (.box t cs') else lkO s.mem k := fun k => by rw [List.singleton_append, lkO_cons]
  have hI : ∀ k, E.I k → w'.heap[k]? = w.heap[k]? := fun k hk => ho k (fun e => hbI (e ▸ hk))
  have hmm : ∀ y u, CV E (lkO s.mem) w y u → CV E (lkO ([(c, Chunk.box t cs')] ++ s.mem)) w' y u := fun y u hy => by
    refine CV.mono (E := E) (m := lkO s.mem) (w := w) (fun _ h => h) hI (fun k t' cs0 b' h1 h2 => ⟨?_, h2⟩) (fun k v' h1 => ?_) hy
    · rw [hlk]
      by_cases e : c = k
      · rw [if_pos e]; exact ⟨t, cs', rfl⟩
      · rw [if_neg e]; exact ⟨t', cs0, h1⟩
    · have hk : ¬ c = k := fun e => by subst e; rw [hm] at h1; simp [verOf] at h1
      exact ⟨v', by rw [hlk, if_neg hk]; exact h1, Nat.le_refl _, fun _ => ⟨rfl, fun _ h => h⟩⟩
  refine h.next hd ⟨hos.1, hos.2.1, hos.2.2, by omega, fun k hk hM => ho k (fun e => ?_)⟩ (fun _ h => h) (fun k hk => ⟨by have := (h.inew k hk).1; omega, (h.inew k hk).2⟩)
    (fun k b' hk => ?_) h.inj hmm (hmm _ _ hv) (fun k => ?_)
  · subst e
    rcases hbM with h1 | h1
    · omega
    · exact hM h1.1
  · obtain ⟨k1, k2, k3⟩ := h.loc k b' hk
    refine ⟨by omega, k2, ?_⟩
    rw [hlk]
    by_cases e : c = k
    · rw [if_pos e]
      subst e
      rcases k3 with k3 | k3
      · exact .inl k3
      · exact .inr ⟨k3.1, rfl⟩
    · rw [if_neg e]; exact k3
  · rw [hlk]
    by_cases e : c = k
    · subst e
      rw [if_pos rfl]
      exact ⟨b, xs, hl, hb, hs, fun i => hmm _ _ (hx i)⟩
    · rw [if_neg e]
      exact ChR.mono (E := E) (m := lkO s.mem) (w := w) (fun _ h => h) hI hmm rfl rfl (fun b' hb' => ho b' (fun e' => e (h.inj c k b hl (e' ▸ hb')))) (h.ch k)

theorem setRow_other (w : World) (g : Nat) (cs : Array Value) (k : Nat) (h : k ≠ g) : (w.setRow g cs).heap[k]? = w.heap[k]? := by
  simp only [World.setRow, Array.getElem?_modify]
  rw [if_neg (fun e => h e.symm)]

theorem storeRow_getD (xs ys : Array Value) (off i : Nat) (h : off + ys.size ≤ xs.size) :
    ((xs.toList.take off ++ ys.toList ++ xs.toList.drop (off + ys.size)).toArray).getD i undef = if off ≤ i ∧ i < off + ys.size then ys.getD (i - off) undef else xs.getD i undef := by
  simp only [Array.getD_eq_getD_getElem?, List.getElem?_toArray, List.getElem?_append, List.length_append, List.length_take, Array.length_toList, List.getElem?_take, List.getElem?_drop, Array.getElem?_toList]
  by_cases h1 : i < off
  · have e1 : i < min off xs.size + ys.size := by omega
    have e2 : i < min off xs.size := by omega
    have e3 : ¬ (off ≤ i ∧ i < off + ys.size) := by omega
    rw [if_pos e1, if_pos e2, if_pos h1, if_neg e3]
  · by_cases h2 : i < off + ys.size
    · have e1 : i < min off xs.size + ys.size := by omega
      have e2 : ¬ i < min off xs.size := by omega
      have e3 : off ≤ i ∧ i < off + ys.size := by omega
      rw [if_pos e1, if_neg e2, if_pos e3]
      have : min off xs.size = off := by omega
      rw [this]
    · have e1 : ¬ i < min off xs.size + ys.size := by omega
      have e3 : ¬ (off ≤ i ∧ i < off + ys.size) := by omega
      rw [if_neg e1, if_neg e3]
      have : off + ys.size + (i - (min off xs.size + ys.size)) = i := by omega
      rw [this]

theorem set_getD {l : List SV} {i j : Nat} (hj : j < l.length) {x : SV} : (l.set i x).getD j .any = if i = j then x else l.getD j .any := by
  rw [List.getD_eq_getElem?_getD, List.getElem?_set]
  by_cases e : i = j
  · subst e; rw [if_pos rfl, if_pos hj, if_pos rfl]; rfl
  · rw [if_neg e, if_neg e, ← List.getD_eq_getElem?_getD]

theorem kB_ok7 {k : CK} {v : SV} (h : kB k v = true) : kOk k v ∧ closed v = true ∧ v.cells = [v] := by
  cases k <;> cases v <;> simp only [kB, reduceCtorEq, decide_eq_true_eq] at h
  · subst h; exact ⟨⟨_, rfl⟩, rfl, rfl⟩
  · exact ⟨.inr (.inr ⟨_, rfl⟩), rfl, rfl⟩
  · exact ⟨.inl rfl, rfl, rfl⟩
  · exact ⟨.inr (.inl rfl), rfl, rfl⟩
  · exact ⟨⟨_, rfl⟩, rfl, rfl⟩
  · rw [← cksEq_eq _ _ h]; exact ⟨.inr ⟨_, rfl⟩, rfl, rfl⟩
  · exact ⟨.inl rfl, rfl, rfl⟩

theorem kBs_get7 : ∀ {ks : List CK} {cs : List SV}, kBs ks cs = true → cs.length = ks.length ∧ ∀ j, j < ks.length → kB (ks.getD j .other) (cs.getD j .any) = true
  | [], [], _ => ⟨rfl, fun j hj => by simp at hj⟩
  | k :: ks, v :: cs, h => by
    simp only [kBs, Bool.and_eq_true] at h
    obtain ⟨h1, h2⟩ := kBs_get7 h.2
    refine ⟨by simp [h1], fun j hj => ?_⟩
    cases j with
    | zero => exact h.1
    | succ j => simpa using h2 j (by simpa using hj)
  | [], _ :: _, h => by cases h
  | _ :: _, [], h => by cases h

theorem stEl_cells {sz : Nat} {e : SV} {off : Nat} {vs : List SV} (he : e.cells.length = sz) (ho : off + vs.length ≤ sz) (h0 : 0 < vs.length) (hv : ∀ j, j < vs.length → (vs.getD j .any).cells = [vs.getD j .any]) : (stEl sz e off vs).cells = setL e.cells off vs := by
  unfold stEl
  split
  · rename_i h1
    have h1 := Nat.eq_of_beq_eq_true h1
    subst h1
    have o0 : off = 0 := by omega
    subst o0
    match vs, h0, ho, hv with
    | [v], _, _, hv =>
      have := hv 0 (by simp)
      rw [this]
      obtain ⟨u, hu⟩ := List.length_eq_one_iff.1 he
      rw [hu]; rfl
  · rfl

/-- A row of the function's own is written. -/
theorem Rel.storeRow (h : Rel P cx.nt B M I0 G w0 E s a w) {c g e v : Nat} {ks : List CK} {l l' : List SV} (hm : lkO s.mem c = some (.row v e ks l)) (hl : E.loc c = some g) {w' : World}
    (ho : ∀ k, k ≠ g → w'.heap[k]? = w.heap[k]?) (hsz : w'.heap.size = w.heap.size) (hos : w'.os = w.os ∧ w'.tape = w.tape ∧ w'.output = w.output) (hrow : RowR E w' c e ks l')
    {d : Option Nat} (hd : ∀ k, d = some k → k < cx.nt) {x : Value} {u : SV} (hu : CV E (lkO s.mem) w x u) :
    Rel P cx.nt B M I0 G w0 E (upd s d u [(c, .row v e ks l')]) (a.put d x) w' := by
  obtain ⟨hbs, hbI, hbM⟩ := h.loc c g hl
  have hB : B ≤ g := by
    rcases hbM with h1 | ⟨_, h1⟩
    · exact h1
    · rw [hm] at h1; simp [verOf] at h1
  have hlk : ∀ k, lkO ([(c, Chunk.row v e ks l')] ++ s.mem) k = if c = k then some (.row v e ks l') else lkO s.mem k := fun k => by rw [List.singleton_append, lkO_cons]
  have hI : ∀ k, E.I k → w'.heap[k]? = w.heap[k]? := fun k hk => ho k (fun e => hbI (e ▸ hk))
  have hmm : ∀ y u, CV E (lkO s.mem) w y u → CV E (lkO ([(c, Chunk.row v e ks l')] ++ s.mem)) w' y u := fun y u hy => by
    refine CV.mono (E := E) (m := lkO s.mem) (w := w) (fun _ h => h) hI (fun k t' cs0 b' h1 h2 => ⟨?_, h2⟩) (fun k v' h1 => ?_) hy
    · have hk : ¬ c = k := fun e => by subst e; rw [hm] at h1; cases h1
      exact ⟨t', cs0, by rw [hlk, if_neg hk]; exact h1⟩
    · by_cases e : c = k
      · subst e
        rw [hm] at h1
        simp only [verOf, Option.some.injEq] at h1
        subst h1
        exact ⟨v, by rw [hlk, if_pos rfl]; rfl, Nat.le_refl _, fun _ => ⟨rfl, fun _ h => h⟩⟩
      · exact ⟨v', by rw [hlk, if_neg e]; exact h1, Nat.le_refl _, fun _ => ⟨rfl, fun _ h => h⟩⟩
  refine h.next hd ⟨hos.1, hos.2.1, hos.2.2, by omega, fun k hk hM => ho k (fun e => by omega)⟩ (fun _ h => h) (fun k hk => ⟨by have := (h.inew k hk).1; omega, (h.inew k hk).2⟩)
    (fun k b' hk => ?_) h.inj hmm (hmm _ _ hu) (fun k => ?_)
  · obtain ⟨k1, k2, k3⟩ := h.loc k b' hk
    refine ⟨by omega, k2, ?_⟩
    rw [hlk]
    by_cases e : c = k
    · subst e
      rw [hl] at hk
      cases hk
      exact .inl hB
    · rw [if_neg e]; exact k3
  · rw [hlk]
    by_cases e : c = k
    · subst e
      rw [if_pos rfl]
      exact hrow
    · rw [if_neg e]
      exact ChR.mono (E := E) (m := lkO s.mem) (w := w) (fun _ h => h) hI hmm rfl rfl (fun b' hb' => ho b' (fun e' => e (h.inj c k g hl (e' ▸ hb')))) (h.ch k)

theorem sound_store (hP : CxOk P cx) {t : Nat} {y z : Operand} (ho : o.op = .store t y z) : Sound cx P o := by
  intro B M I0 G w0 E s a w K Q h hd hob hK
  have e : opx cx s.mem (ev s.tm) o = opE cx s.mem (ev s.tm) o.dst (.store t y z) := by simp [opx, ho]
  rw [e] at hob hK
  simp only [opE] at hob hK
  have hy := h.eval y
  have hz := h.eval z
  cases ht : tyOf cx t with
  | none => rw [ht] at hob; exact hob.elim
  | some L =>
    have hL := tyRun hP ht
    obtain ⟨inf, zv, i1, i2, _⟩ := hL.info
    simp only [ht] at hob hK
    cases q1 : Nat.beq (ev s.tm z).cells.length L.ks.length <;> cases q2 : cellsB s.mem (ev s.tm z) <;> cases q3 : oneL s.mem (ev s.tm z).cells <;> simp only [q1, q2, q3] at hob hK <;> try exact hob.elim
    have q1' := Nat.eq_of_beq_eq_true q1
    obtain ⟨z1, z2⟩ := cells_cv h.ch hz q2
    have z3 : ∀ v ∈ (a.eval z).cells.toList, v.oneCell' = true := oneL_one h.ch _ _ (by simpa using z1) q3 (fun i => by simpa [Array.getD_eq_getD_getElem?, List.getD_eq_getElem?_getD] using z2 i)
    -- the store itself
    have main : ∀ (c b off bt : Nat) (cs : List SV), a.eval y = .pointer (some ⟨b, off, none⟩) → lkO s.mem c = some (.box bt cs) → E.loc c = some b → off + L.ks.length ≤ cs.length →
        (∀ E' a' w', Rel P cx.nt B M I0 G w0 E' (upd s o.dst .und [(c, .box bt (setL cs off (ev s.tm z).cells))]) a' w' → K a' w') → Oper.wp P o a w K Q := by
      intro c b off bt cs e1 hm hl hn hK
      obtain ⟨xs, h1, h2, h3⟩ := h.boxAt hm hl
      have hrun : (execOp a.eval o).run P w = .ok .skip (w.setRow b (xs.toList.take off ++ (a.eval z).cells.toList ++ xs.toList.drop (off + (a.eval z).cells.size)).toArray) := by
        have hst := run_storeCells_at P b off bt (a.eval z).cells.toList 0 xs w h1 (by simp; omega) z3
        simp only [Nat.add_zero, Array.length_toList] at hst
        simp only [execOp, ho, Instr.storeAt, storeVar, e1, Instr.sureAddr, Sem.run_bind, Sem.run_pure, Result.andThen_ok, run_size i1]
        rw [Sem.run_ite, if_neg (by omega), hst]
        rfl
      unfold Oper.wp
      rw [hrun]
      have hheap := setRow_heap w b xs (xs.toList.take off ++ (a.eval z).cells.toList ++ xs.toList.drop (off + (a.eval z).cells.size)).toArray bt (0, 0) h1
      refine hK E _ _ (h.store (x := undef) (v := .und) hm hl ?_ ?_ (dOk_lt hd) (.conc _ _ .und) hheap (fun k hk => setRow_other _ _ _ _ hk) (by simp [World.setRow]) ⟨rfl, rfl, rfl⟩)
      · rw [setL_length]; simp; omega
      · intro i
        rw [storeRow_getD _ _ _ _ (by omega), setL_getD _ _ _ _ (by omega)]
        by_cases hi : off ≤ i ∧ i < off + (a.eval z).cells.size
        · rw [if_pos hi, if_pos (by omega)]; exact z2 _
        · rw [if_neg hi, if_neg (by omega)]; exact h3 i
    cases hv : ev s.tm y with
    | ptr c off =>
      rw [hv] at hy
      simp only [hv] at hob hK
      obtain ⟨b, bt, cs, e1, hm, hl⟩ := hy.inv_ptr
      simp only [hm] at hob hK
      cases hb : Nat.ble (off + L.ks.length) cs.length with
      | false => simp only [hb] at hob; exact hob.elim
      | true => simp only [hb] at hK; exact main c b off bt cs e1 hm hl (Nat.le_of_ble_eq_true hb) hK
    | ptx c off =>
      rw [hv] at hy
      simp only [hv] at hob hK
      obtain ⟨b, bt, cs, e1, hm, hl⟩ := hy.inv_ptx
      simp only [hm] at hob hK
      exact main c b off bt cs e1 hm hl hob.out hK
    | rptr c sz i off ver =>
      rw [hv] at hy
      simp only [hv] at hob hK
      cases hm : lkO s.mem c with
      | none => simp only [hm] at hob; exact hob.elim
      | some ch =>
        cases ch with
        | gh => simp only [hm] at hob; exact hob.elim
        | box => simp only [hm] at hob; exact hob.elim
        | froz => simp only [hm] at hob; exact hob.elim
        | row v e ks l =>
          simp only [hm] at hob hK
          cases hq : (Nat.beq v ver && Nat.beq sz ks.length && cksEq ((ks.drop off).take L.ks.length) L.ks && kBs L.ks (ev s.tm z).cells && Nat.blt 0 L.ks.length) with
          | false => simp only [hq] at hob; exact hob.elim
          | true =>
            simp only [hq] at hob hK
            simp only [Bool.and_eq_true] at hq
            obtain ⟨⟨⟨⟨p1, p2⟩, p3⟩, p4⟩, p5⟩ := hq
            have p1 := Nat.eq_of_beq_eq_true p1
            have p2 := Nat.eq_of_beq_eq_true p2
            have p3 := cksEq_eq _ _ p3
            rw [Nat.blt_eq] at p5
            obtain ⟨k1, k2⟩ := kBs_get7 p4
            obtain ⟨hi⟩ := hob
            subst p2
            have hoff : off + L.ks.length ≤ ks.length := by
              have := congrArg List.length p3
              simp only [List.length_take, List.length_drop] at this
              omega
            have hkd : ∀ j, j < L.ks.length → L.ks.getD j .other = ks.getD (off + j) .other := fun j hj => by
              rw [← p3]
              simp only [List.getD_eq_getElem?_getD, List.getElem?_take, List.getElem?_drop, if_pos hj]
            have hrow : RowR E w c e ks l := by have := h.ch c; rw [hm] at this; exact this
            obtain ⟨r1, r2, xs, ro, r4⟩ := hrow
            rcases ro.2 with ⟨_, r0⟩ | ⟨g, cap, cur, c1, c2, c3, c4, c5, c6, c7⟩
            · omega
            have hl : E.loc c = some g := by rw [r2, c1]; rfl
            obtain ⟨v', e1, e2, e3⟩ := hy.inv_rptr
            rw [hm] at e1
            simp only [verOf, Option.some.injEq] at e1
            have e4 := e3 (by omega) g hl
            have zs : (a.eval z).cells.toList.length = L.ks.length := by simp; omega
            have zs' : (a.eval z).cells.size = L.ks.length := by simpa using zs
            have hin : i * ks.length + ks.length ≤ l.length * ks.length := by
              have : (i + 1) * ks.length ≤ l.length * ks.length := Nat.mul_le_mul_right _ hi
              rw [Nat.add_mul, Nat.one_mul] at this; exact this
            have hcap : l.length * ks.length ≤ cur.size := by rw [c6]; exact Nat.mul_le_mul_right _ c4
            generalize hcu : (cur.toList.take (i * ks.length + off) ++ (a.eval z).cells.toList ++ cur.toList.drop ((i * ks.length + off) + (a.eval z).cells.size)).toArray = cur'
            have hcs : cur'.size = cur.size := by rw [← hcu]; simp; omega
            have hrun : (execOp a.eval o).run P w = .ok .skip (w.setRow g cur') := by
              have hst := run_storeCells_at P g (i * ks.length + off) e (a.eval z).cells.toList 0 cur w c3 (by simp; omega) z3
              simp only [Nat.add_zero, Array.length_toList, hcu] at hst
              simp only [execOp, ho, Instr.storeAt, storeVar, e4, Instr.sureAddr, Sem.run_bind, Sem.run_pure, Result.andThen_ok, run_size i1]
              rw [Sem.run_ite, if_neg (by omega), hst]
              rfl
            have hheap := setRow_heap w g cur cur' e (0, 0) c3
            have hI : ∀ k, E.I k → (w.setRow g cur').heap[k]? = w.heap[k]? := fun k hk => setRow_other _ _ _ _ (fun e => (h.loc c g hl).2.1 (e ▸ hk))
            have hsh : ∀ {j}, j < ks.length → kOk (ks.getD j .other) ((l.getD i .any).cells.getD j .any) := fun hj => shOk_get r1 hi hj
            have hel : (l.getD i .any).cells.length = ks.length := by
              have hmem : l.getD i .any ∈ l := by rw [List.getD_eq_getElem?_getD, List.getElem?_eq_getElem hi]; exact List.getElem_mem hi
              exact (r1 _ hmem).1
            have hsc : (stEl ks.length (l.getD i .any) off (ev s.tm z).cells).cells = setL (l.getD i .any).cells off (ev s.tm z).cells :=
              stEl_cells hel (by omega) (by omega) (fun j hj => by have := (kB_ok7 (k2 j (by omega))).2.2; exact this)
            have hgd : ∀ j, (setL (l.getD i .any).cells off (ev s.tm z).cells).getD j .any = if off ≤ j ∧ j < off + L.ks.length then (ev s.tm z).cells.getD (j - off) .any else (l.getD i .any).cells.getD j .any := fun j => by
              rw [setL_getD _ _ _ _ (by omega), k1]
            unfold Oper.wp
            rw [hrun]
            refine hK E _ _ (h.storeRow (x := undef) (u := .und) hm hl (fun k hk => setRow_other _ _ _ _ hk) (by simp [World.setRow]) ⟨rfl, rfl, rfl⟩ ⟨fun v hv => ?_, r2, (cur'.toList.take (l.length * ks.length)), ⟨?_, .inr ⟨g, cap, cur', ?_, c2, hheap, ?_, c5, by rw [hcs]; exact c6, ?_⟩⟩, fun i' j hi' hj => ?_⟩ (dOk_lt hd) (.conc _ _ .und))
            · rcases List.mem_or_eq_of_mem_set hv with hv | hv
              · exact r1 v hv
              · subst hv
                refine ⟨by rw [hsc, setL_length, hel], fun j hj => ?_⟩
                rw [hsc, hgd]
                by_cases hr : off ≤ j ∧ j < off + L.ks.length
                · rw [if_pos hr]
                  have := (kB_ok7 (k2 (j - off) (by omega))).1
                  rw [hkd _ (by omega)] at this
                  have e5 : off + (j - off) = j := by omega
                  rw [e5] at this; exact this
                · rw [if_neg hr]; exact hsh hj
            · simp only [List.length_take, List.length_set, Array.length_toList]; omega
            · rw [c1, List.length_set]
            · rw [List.length_set]; exact c4
            · rw [List.length_set]
            · rw [List.length_set] at hi'
              have hlt : i' * ks.length + j < l.length * ks.length := by
                have : (i' + 1) * ks.length ≤ l.length * ks.length := Nat.mul_le_mul_right _ hi'
                rw [Nat.add_mul, Nat.one_mul] at this
                omega
              have g1 : (cur'.toList.take (l.length * ks.length)).getD (i' * ks.length + j) undef = cur'.getD (i' * ks.length + j) undef := by
                rw [List.getD_eq_getElem?_getD, List.getElem?_take, if_pos hlt, Array.getD_eq_getD_getElem?, Array.getElem?_toList]
              have g2 : xs.getD (i' * ks.length + j) undef = cur.getD (i' * ks.length + j) undef := by
                rw [← c7, List.getD_eq_getElem?_getD, List.getElem?_take, if_pos hlt, Array.getD_eq_getD_getElem?, Array.getElem?_toList]
              have g3 := storeRow_getD cur (a.eval z).cells (i * ks.length + off) (i' * ks.length + j) (by omega)
              rw [hcu, zs'] at g3
              rw [g1, g3]
              have hold := (r4 i' j hi' hj)
              rw [g2] at hold
              have hel2 : elCell (l.set i (stEl ks.length (l.getD i .any) off (ev s.tm z).cells)) i' j = if i = i' then (stEl ks.length (l.getD i .any) off (ev s.tm z).cells).cells.getD j .any else elCell l i' j := by
                unfold elCell
                rw [set_getD hi']
                by_cases e5 : i = i'
                · rw [if_pos e5, if_pos e5]
                · rw [if_neg e5, if_neg e5]
              rw [hel2]
              by_cases e5 : i = i'
              · subst e5
                rw [if_pos rfl, hsc, hgd]
                by_cases hr : off ≤ j ∧ j < off + L.ks.length
                · rw [if_pos hr, if_pos (by omega)]
                  have e6 : i * ks.length + j - (i * ks.length + off) = j - off := by omega
                  rw [e6]
                  have := closed_conc _ _ (kB_ok7 (k2 (j - off) (by omega))).2.1 (z2 (j - off))
                  exact this.mono (fun _ h => h) hI
                · rw [if_neg hr, if_neg (by omega)]
                  exact hold.mono (fun _ h => h) hI
              · rw [if_neg e5]
                have hne : ¬ (i * ks.length + off ≤ i' * ks.length + j ∧ i' * ks.length + j < i * ks.length + off + L.ks.length) := by
                  rcases Nat.lt_or_gt_of_ne e5 with h5 | h5
                  · have : (i + 1) * ks.length ≤ i' * ks.length := Nat.mul_le_mul_right _ h5
                    rw [Nat.add_mul, Nat.one_mul] at this
                    omega
                  · have : (i' + 1) * ks.length ≤ i * ks.length := Nat.mul_le_mul_right _ h5
                    rw [Nat.add_mul, Nat.one_mul] at this
                    omega
                rw [if_neg hne]
                exact hold.mono (fun _ h => h) hI
    | _ => simp only [hv] at hob; exact hob.elim

theorem TkOk_struct {d : TypeDesc} {fl : List (Nat × Nat)} (h : TkOk P d (.struct fl)) : ∃ fs, d = .struct fs ∧ fs.size = fl.length ∧
    ∀ (i : Nat) (f : Field), fs[i]? = some f → fl[i]? = some (f.offset, f.type) ∧ ∃ inf, P.info? f.type = some inf ∧ inf.size ≠ 0 := by
  cases d <;> first | exact ⟨_, rfl, h.1, h.2⟩ | exact h.elim
theorem TkOk_arr {d : TypeDesc} {n e : Nat} (h : TkOk P d (.arr n e)) : d = .array n e := by
  cases d <;> first | (obtain ⟨rfl, rfl⟩ := h; rfl) | exact h.elim
theorem TkOk_sl {d : TypeDesc} {e : Nat} (h : TkOk P d (.sl e)) : d = .slice e := by
  cases d <;> first | (cases h; rfl) | exact h.elim
theorem TkOk_ptr {d : TypeDesc} {e : Nat} (h : TkOk P d (.ptr e)) : d = .pointer e := by
  cases d <;> first | (cases h; rfl) | exact h.elim
theorem TkOk_int {d : TypeDesc} {k : IntKind} (h : TkOk P d (.int k)) : d = .int k := by
  cases d <;> first | (cases h; rfl) | exact h.elim
theorem TkOk_bool {d : TypeDesc} (h : TkOk P d .bool) : d = .bool := by
  cases d <;> first | rfl | exact h.elim
theorem TkOk_str {d : TypeDesc} (h : TkOk P d .str) : d = .string := by
  cases d <;> first | rfl | exact h.elim

theorem run_field (hP : CxOk P cx) {t f fo : Nat} (hf : fieldOff cx t f = some fo) (b off : Nat) (w : World) : (Instr.fieldAt t (.pointer (some ⟨b, off, none⟩)) f).run P w = .ok (.pointer (some ⟨b, off + fo, none⟩)) w := by
  unfold fieldOff at hf
  cases ht : tyOf cx t with
  | none => rw [ht] at hf; cases hf
  | some L =>
    rw [ht] at hf
    obtain ⟨d, h1, h2⟩ := (tyRun hP ht).desc
    cases hk : L.k with
    | struct fl =>
      simp only [hk] at hf h2
      obtain ⟨fs, rfl, h3, h4⟩ := TkOk_struct h2
      cases hq : fl[f]? with
      | none => rw [hq] at hf; cases hf
      | some p =>
        obtain ⟨o', ft⟩ := p
        rw [hq] at hf
        cases hf
        have hlt : f < fs.size := by have := (List.getElem?_eq_some_iff.1 hq).1; omega
        have hfs : fs[f]? = some fs[f] := Array.getElem?_eq_getElem hlt
        obtain ⟨h5, inf, h6, h7⟩ := h4 f _ hfs
        rw [hq] at h5
        simp only [Option.some.injEq, Prod.mk.injEq] at h5
        simp [Instr.fieldAt, run_underlying h1, hfs, Instr.sureAddr, fieldPlace, run_size h6, h7, addr_add, h5.1]
    | _ => simp only [hk] at hf; cases hf

theorem ep_add {I : Nat → Prop} {x : Value} {ks : List CK} {l : List SV} {i q : Nat} (h : Conc I w x (.ep ks l i q)) : ∃ b p, x = .pointer (some ⟨b, p, none⟩) ∧ ∀ d, Conc I w (.pointer (some ⟨b, p + d, none⟩)) (.ep ks l i (q + d)) := by
  cases h with
  | ep b o' _ _ _ _ x hb hi hsh hx hc => exact ⟨b, o' + i * ks.length + q, rfl, fun d => by rw [Nat.add_assoc]; exact .ep b o' ks l i (q + d) x hb hi hsh hx hc⟩

theorem sound_fieldAddr (hP : CxOk P cx) {t f : Nat} {y : Operand} (ho : o.op = .fieldAddr t y f) : Sound cx P o := by
  intro B M I0 G w0 E s a w K Q h hd hob hK
  have e : opx cx s.mem (ev s.tm) o = opE cx s.mem (ev s.tm) o.dst (.fieldAddr t y f) := by simp [opx, ho]
  rw [e] at hob hK
  simp only [opE] at hob hK
  have hy := h.eval y
  cases hf : fieldOff cx t f with
  | none => simp only [hf] at hob; exact hob.elim
  | some fo =>
    cases hv : ev s.tm y with
    | ptr c off =>
      rw [hv] at hy
      simp only [hf, hv] at hK
      obtain ⟨b, bt, cs, e1, hm, hl⟩ := hy.inv_ptr
      exact op_val h hd (x := .pointer (some ⟨b, off + fo, none⟩)) (by simp [execOp, ho, e1, run_field hP hf]) (.ptr c _ b bt cs hm hl) hK
    | ptx c off =>
      rw [hv] at hy
      simp only [hf, hv] at hK
      obtain ⟨b, bt, cs, e1, hm, hl⟩ := hy.inv_ptx
      exact op_val h hd (x := .pointer (some ⟨b, off + fo, none⟩)) (by simp [execOp, ho, e1, run_field hP hf]) (.ptx c _ b bt cs hm hl) hK
    | ep ks l i off =>
      rw [hv] at hy
      simp only [hf, hv] at hK
      obtain ⟨b, p, e1, hadd⟩ := ep_add hy.inv_ep
      exact op_val h hd (x := .pointer (some ⟨b, p + fo, none⟩)) (by simp [execOp, ho, e1, run_field hP hf]) (.conc _ _ (hadd fo)) hK
    | rptr c sz i off ver =>
      rw [hv] at hy
      simp only [hf, hv] at hob hK
      cases hm : lkO s.mem c with
      | none => simp only [hm] at hob; exact hob.elim
      | some ch =>
        cases ch with
        | gh => simp only [hm] at hob; exact hob.elim
        | row v e ks l =>
          simp only [hm] at hob hK
          cases hq : Nat.beq v ver with
          | false => simp only [hq] at hob; exact hob.elim
          | true =>
            simp only [hq] at hob hK
            have q1 := Nat.eq_of_beq_eq_true hq
            obtain ⟨hi⟩ := hob
            have hrow : RowR E w c e ks l := by have := h.ch c; rw [hm] at this; exact this
            obtain ⟨g, cap, hl, _, _⟩ := hrow.cells (by omega)
            obtain ⟨v', e1, e2, e3⟩ := hy.inv_rptr
            have e1' := e1
            rw [hm] at e1
            simp only [verOf, Option.some.injEq] at e1
            have e4 := e3 (by omega) g hl
            refine op_val h hd (x := .pointer (some ⟨g, i * sz + off + fo, none⟩)) (by simp [execOp, ho, e4, run_field hP hf]) (.rptr _ c sz i _ ver v' e1' e2 (fun _ b hb => ?_)) hK
            rw [hl] at hb
            cases hb
            rw [Nat.add_assoc]
        | box => simp only [hm] at hob; exact hob.elim
        | froz => simp only [hm] at hob; exact hob.elim
    | _ => simp only [hf, hv] at hob; exact hob.elim
end
end Go.Rx
