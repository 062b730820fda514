/- The framework, part 21a: calls that are gone through in place. -/
import Derived.Test.YtemmckefdgklaaaFw20
namespace Go.Rx
set_option linter.unusedSectionVars false
open Go.RowKit

theorem ghostR_lk (g : Nat) (tm : List (Nat × SV)) : ∀ (n k : Nat), lkO (ghostR g tm n) k = if g ≤ k ∧ k < g + n then (match lkO tm (k - g) with | some v => some (.gh v) | none => none) else none
  | 0, k => by rw [if_neg (by omega)]; rfl
  | n + 1, k => by
    have ih := ghostR_lk g tm n k
    unfold ghostR
    split
    · rename_i v hv
      rw [lkO_cons, ih]
      by_cases e : g + n = k
      · subst e
        rw [if_pos rfl, if_pos (by omega)]
        have : g + n - g = n := by omega
        rw [this, hv]
      · rw [if_neg e]
        by_cases h : g ≤ k ∧ k < g + n
        · rw [if_pos h, if_pos (by omega)]
        · rw [if_neg h, if_neg (by omega)]
    · rename_i hv
      rw [ih]
      by_cases h : g ≤ k ∧ k < g + n
      · rw [if_pos h, if_pos (by omega)]
      · rw [if_neg h]
        by_cases e : k = g + n
        · subst e
          rw [if_pos (by omega)]
          have : g + n - g = n := by omega
          rw [this, hv]
        · rw [if_neg (by omega)]

theorem inR_iff {g n k : Nat} : inR g n k = true ↔ g ≤ k ∧ k < g + n := by
  unfold inR
  rw [Bool.and_eq_true]
  constructor
  · rintro ⟨h1, h2⟩; exact ⟨Nat.le_of_ble_eq_true h1, by rw [Nat.blt_eq] at h2; exact h2⟩
  · rintro ⟨h1, h2⟩; exact ⟨Nat.ble_eq_true_of_le h1, by rw [Nat.blt_eq]; exact h2⟩

theorem noR_lk {g n : Nat} : ∀ {m : List (Nat × Chunk)}, noR g n m = true → ∀ k, g ≤ k ∧ k < g + n → lkO m k = none
  | [], _, k, _ => rfl
  | (k', c) :: r, h, k, hk => by
    unfold noR at h
    split at h
    · cases h
    · rename_i hr
      rw [lkO_cons, if_neg (fun e => by subst e; rw [inR_iff.2 hk] at hr; cases hr)]
      exact noR_lk h k hk

theorem dropR_lk (g n : Nat) : ∀ (m : List (Nat × Chunk)) (k : Nat), lkO (dropR g n m) k = if g ≤ k ∧ k < g + n then none else lkO m k
  | [], k => by simp [dropR, lkO]
  | (k', c) :: r, k => by
    unfold dropR
    split
    · rename_i hr
      rw [dropR_lk g n r k, lkO_cons]
      by_cases e : k' = k
      · subst e; rw [if_pos (inR_iff.1 hr), if_pos (inR_iff.1 hr)]
      · rw [if_neg e]
    · rename_i hr
      rw [lkO_cons, dropR_lk g n r k, lkO_cons]
      by_cases e : k' = k
      · subst e
        rw [if_pos rfl, if_neg (fun h => by rw [inR_iff.2 h] at hr; cases hr), if_pos rfl]
      · rw [if_neg e, if_neg e]

theorem dropR_none : ∀ (m : List (Nat × Chunk)), dropR 0 0 m = m
  | [] => rfl
  | (x, c) :: r => by
    unfold dropR
    have : inR 0 0 x = false := by
      cases h : inR 0 0 x with
      | false => rfl
      | true => have := inR_iff.1 h; omega
    rw [this, dropR_none r]
theorem dropK_eq (g n : Nat) : ∀ (m : List (Nat × Chunk)) (k : List (Nat × Chunk) → Prop), dropK g n m k = k (dropR g n m)
  | [], k => rfl
  | (x, c) :: r, k => by
    unfold dropK dropR
    cases inR g n x with
    | true => exact dropK_eq g n r k
    | false => exact dropK_eq g n r _
theorem appK_eq (b : List (Nat × Chunk)) : ∀ (a : List (Nat × Chunk)) (k : List (Nat × Chunk) → Prop), appK b a k = k (a ++ b)
  | [], k => by unfold appK; rw [dropK_eq, dropR_none]; rfl
  | x :: r, k => by unfold appK; rw [appK_eq b r]; rfl
theorem forceL_eq : ∀ (l : List (Nat × SV)) (k : List (Nat × SV) → Prop), forceL l k = k l
  | [], k => rfl
  | (x, c) :: r, k => by unfold forceL; rw [forceL_eq r]
theorem forceS_eq (s : St) (k : St → Prop) : forceS s k = k s := by unfold forceS; rw [forceL_eq, dropK_eq, dropR_none]

theorem restT_lk {g : Nat} {m : List (Nat × Chunk)} : ∀ {n : Nat} {tm : List (Nat × SV)}, restT g m n = some tm →
    (∀ t, t < n → (lkO m (g + t) = none ∧ lk .any tm t = .any) ∨ ∃ v, lkO m (g + t) = some (.gh v) ∧ lk .any tm t = v) ∧ ∀ t, n ≤ t → lk .any tm t = .any
  | 0, tm, h => by
    cases h
    exact ⟨fun t ht => by omega, fun t _ => rfl⟩
  | n + 1, tm, h => by
    unfold restT at h
    split at h
    · rename_i tm0 h0
      obtain ⟨h1, h2⟩ := restT_lk h0
      split at h
      · rename_i v hv
        cases h
        refine ⟨fun t ht => ?_, fun t ht => ?_⟩
        · by_cases e : n = t
          · subst e; exact .inr ⟨v, hv, by rw [lk_cons, if_pos rfl]⟩
          · rw [lk_cons, if_neg e]; exact h1 t (by omega)
        · rw [lk_cons, if_neg (by omega)]; exact h2 t (by omega)
      · rename_i hv
        cases h
        refine ⟨fun t ht => ?_, fun t ht => h2 t (by omega)⟩
        by_cases e : n = t
        · subst e; exact .inl ⟨hv, h2 n (Nat.le_refl _)⟩
        · exact h1 t (by omega)
      · cases h
    · cases h

theorem lk_lkO {tm : List (Nat × SV)} {t : Nat} : lk .any tm t = (match lkO tm t with | some v => v | none => .any) := by
  induction tm with
  | nil => rfl
  | cons x r ih =>
    obtain ⟨k, v⟩ := x
    rw [lk_cons, lkO_cons, ih]
    by_cases e : k = t <;> simp [e]

section
variable {cx : Cx} {P : Program} [Laid P] {B : Nat} {M I0 : Nat → Prop} {G : Nat → Value} {w0 : World} {E : Env} {s : St} {a : Act} {w : World} {o : Oper} {Q : Exit → Act → World → Prop}

/-- The slots are kept while the call runs. -/
theorem Rel.suspend (h : Rel P cx.nt B M I0 G w0 E s a w) {g : Nat} (hn : noR g cx.nt s.mem = true) :
    ∃ (G' : Nat → Value) (E' : Env), (∀ k, ¬ (g ≤ k ∧ k < g + cx.nt) → G' k = G k) ∧ (∀ t, t < cx.nt → G' (g + t) = a.tmps.getD t undef) ∧
      (∀ x v, CV E (lkO s.mem) w x v → CV E' (lkO (ghostR g s.tm cx.nt ++ s.mem)) w x v) ∧ Rel P 0 B M I0 G' w0 E' ⟨[], ghostR g s.tm cx.nt ++ s.mem⟩ ⟨#[], []⟩ w := by
  let G' : Nat → Value := fun k => if g ≤ k ∧ k < g + cx.nt then a.tmps.getD (k - g) undef else G k
  let E' : Env := { E with gv := G' }
  have hlk : ∀ k, ¬ (g ≤ k ∧ k < g + cx.nt) → lkO (ghostR g s.tm cx.nt ++ s.mem) k = lkO s.mem k := fun k hk => by
    rw [lkO_append, ghostR_lk, if_neg hk]
  have hin : ∀ k ch, lkO s.mem k = some ch → ¬ (g ≤ k ∧ k < g + cx.nt) := fun k ch hk hr => by
    rw [noR_lk hn k hr] at hk; cases hk
  have hm : ∀ x v, CV E (lkO s.mem) w x v → CV E' (lkO (ghostR g s.tm cx.nt ++ s.mem)) w x v := fun x v hx => by
    refine CV.mono (E := E) (m := lkO s.mem) (w := w) (fun _ h => h) (fun _ _ => rfl) (fun c t cs b h1 h2 => ?_) (hq_of fun c b h1 h2 => ?_) (fun c v h1 => ?_) hx
    · exact ⟨⟨t, cs, by rw [hlk c (hin c _ h1)]; exact h1⟩, h2⟩
    · have : ¬ (g ≤ c ∧ c < g + cx.nt) := by
        cases hc : lkO s.mem c with
        | none => exact (isPt_none h1 hc).elim
        | some ch => exact hin c ch hc
      exact ⟨hlk c this, h2⟩
    · have : ¬ (g ≤ c ∧ c < g + cx.nt) := by
        cases hc : lkO s.mem c with
        | none => rw [hc] at h1; simp [verOf] at h1
        | some ch => exact hin c ch hc
      exact ⟨v, by rw [hlk c this]; exact h1, Nat.le_refl _, fun _ => ⟨rfl, fun b hb => hb⟩⟩
  refine ⟨G', E', fun k hk => if_neg hk, fun t ht => ?_, hm, ⟨rfl, rfl, h.fr, h.base, h.i0, h.inew, fun c b hc => ?_, h.inj, fun t => ?_, fun c => ?_, h.ld, rfl⟩⟩
  · show (if g ≤ g + t ∧ g + t < g + cx.nt then _ else _) = _
    rw [if_pos (by omega)]
    have : g + t - g = t := by omega
    rw [this]
  · obtain ⟨q1, q2, q3⟩ := h.loc c b hc
    refine ⟨q1, q2, q3.imp id fun q => ⟨q.1, ?_⟩⟩
    dsimp only
    by_cases hr : g ≤ c ∧ c < g + cx.nt
    · rw [lkO_append, ghostR_lk, if_pos hr, noR_lk hn c hr]
      cases lkO s.tm (c - g) <;> rfl
    · rw [hlk c hr]; exact q.2
  · exact .conc _ _ (.any _)
  · dsimp only
    by_cases hr : g ≤ c ∧ c < g + cx.nt
    · rw [lkO_append, ghostR_lk, if_pos hr, noR_lk hn c hr]
      cases ht : lkO s.tm (c - g) with
      | none => trivial
      | some v =>
        have ht' := h.tm (c - g)
        rw [lk_lkO, ht] at ht'
        show CV E' _ w (if g ≤ c ∧ c < g + cx.nt then _ else _) v
        rw [if_pos hr]
        exact hm _ _ ht'
    · rw [hlk c hr]
      refine ChR.mono (E := E) (m := lkO s.mem) (w := w) (fun _ h => h) (fun _ _ => rfl) hm rfl rfl (fun _ _ => rfl) (h.ch c) ?_
      show (if g ≤ c ∧ c < g + cx.nt then _ else _) = _
      rw [if_neg hr, h.gv]

/-- They are there behind it. -/
theorem Rel.resume {nt : Nat} {G' : Nat → Value} {E' : Env} {m' : List (Nat × Chunk)} {w' : World} {g : Nat} (hts : a.tmps.size = nt) (hdf : a.defers = []) (h : Rel P 0 B M I0 G' w0 E' ⟨[], m'⟩ ⟨#[], []⟩ w') (h1 : ∀ k, ¬ (g ≤ k ∧ k < g + nt) → G' k = G k) (h2 : ∀ t, t < nt → G' (g + t) = a.tmps.getD t undef)
    {tm : List (Nat × SV)} (hr : restT g m' nt = some tm) {x : Value} {r : SV} (hx : CV E' (lkO m') w' x r) {d : Option Nat} (hd : ∀ k, d = some k → k < nt) :
    ∃ E'', Rel P nt B M I0 G w0 E'' ⟨putT d r tm, dropR g nt m'⟩ (a.put d x) w' := by
  obtain ⟨r1, r2⟩ := restT_lk hr
  let E'' : Env := { E' with gv := G }
  have hlk : ∀ k ch, lkO m' k = some ch → (∀ v, ch ≠ .gh v) → ¬ (g ≤ k ∧ k < g + nt) := fun k ch hk hg hR => by
    have e : g + (k - g) = k := by omega
    rcases r1 (k - g) (by omega) with ⟨q, _⟩ | ⟨v, q, _⟩
    · rw [e, hk] at q; cases q
    · rw [e, hk] at q; cases q; exact hg v rfl
  have hm : ∀ x v, CV E' (lkO m') w' x v → CV E'' (lkO (dropR g nt m')) w' x v := fun x v hx => by
    refine CV.mono (E := E') (m := lkO m') (w := w') (fun _ h => h) (fun _ _ => rfl) (fun c t cs b e1 e2 => ?_) (hq_of fun c b e1 e2 => ?_) (fun c v e1 => ?_) hx
    · exact ⟨⟨t, cs, by rw [dropR_lk, if_neg (hlk c _ e1 (fun v h => by cases h))]; exact e1⟩, e2⟩
    · have : ¬ (g ≤ c ∧ c < g + nt) := by
        cases hc : lkO m' c with
        | none => exact (isPt_none e1 hc).elim
        | some ch => exact hlk c ch hc (fun v h => by subst h; exact isPt_gh e1 hc)
      exact ⟨by rw [dropR_lk, if_neg this], e2⟩
    · have : ¬ (g ≤ c ∧ c < g + nt) := by
        cases hc : lkO m' c with
        | none => rw [hc] at e1; simp [verOf] at e1
        | some ch => exact hlk c ch hc (fun v h => by subst h; rw [hc] at e1; simp [verOf] at e1)
      exact ⟨v, by rw [dropR_lk, if_neg this]; exact e1, Nat.le_refl _, fun _ => ⟨rfl, fun b hb => hb⟩⟩
  have htm : ∀ t, CV E'' (lkO (dropR g nt m')) w' (a.tmps.getD t undef) (lk .any tm t) := fun t => by
    by_cases ht : t < nt
    · rcases r1 t ht with ⟨_, q⟩ | ⟨v, q1, q2⟩
      · rw [q]; exact .conc _ _ (.any _)
      · rw [q2, ← h2 t ht]
        have := h.ch (g + t)
        dsimp only at this
        rw [q1] at this
        have this : CV E' (lkO m') w' (E'.gv (g + t)) v := this
        rw [h.gv] at this
        exact hm _ _ this
    · rw [r2 t (by omega)]; exact .conc _ _ (.any _)
  refine ⟨E'', by rw [put_defers']; exact hdf, by rw [put_size]; exact hts, h.fr, h.base, h.i0, h.inew, fun c b hc => ?_, h.inj, fun t => ?_, fun c => ?_, h.ld, rfl⟩
  · obtain ⟨q1, q2, q3⟩ := h.loc c b hc
    refine ⟨q1, q2, q3.imp id fun q => ⟨q.1, ?_⟩⟩
    dsimp only
    rw [dropR_lk]
    split
    · rfl
    · exact q.2
  · cases d with
    | none => exact htm t
    | some k =>
      have hk : k < a.tmps.size := by rw [hts]; exact hd k rfl
      rw [put_getD hk]
      show CV E'' _ w' _ (lk .any ((k, r) :: tm) t)
      rw [lk_cons]
      by_cases e : k = t
      · rw [if_pos e, if_pos e]; exact hm _ _ hx
      · rw [if_neg e, if_neg e]; exact htm t
  · dsimp only
    rw [dropR_lk]
    split
    · trivial
    · rename_i hR
      refine ChR.mono (E := E') (m := lkO m') (w := w') (fun _ h => h) (fun _ _ => rfl) hm rfl rfl (fun _ _ => rfl) (h.ch c) ?_
      show G c = E'.gv c
      rw [h.gv, h1 c hR]

theorem inlOf_some {gg : Operand → SV} {T : Tr} {as : List SV} (h : inlOf cx gg o = some (T, as)) : (∃ c f fn caps, o.op = .call c ∧ c.callee = .value f ∧ gg f = .fn fn caps ∧ lkO cx.inl fn = some T ∧ as = (c.args.toList.map gg) ++ caps) ∨
    ∃ it c, o.op = .next it false ∧ gg it = .itp c ∧ T = nextT ∧ as = [.itp c] := by
  unfold inlOf at h
  split at h
  · rename_i c ho
    split at h
    · rename_i f hf
      split at h
      · rename_i fn caps hg
        split at h
        · rename_i T' hT
          simp only [Option.some.injEq, Prod.mk.injEq] at h
          obtain ⟨rfl, rfl⟩ := h
          exact .inl ⟨c, f, fn, caps, ho, hf, hg, hT, rfl⟩
        · cases h
      · cases h
    · cases h
  · rename_i it ho
    split at h
    · rename_i c hc
      simp only [Option.some.injEq, Prod.mk.injEq] at h
      obtain ⟨rfl, rfl⟩ := h
      exact .inr ⟨it, c, ho, hc, rfl, rfl⟩
    · cases h
  · cases h

theorem inl_wp (hP : CxOk P cx) (h : Rel P cx.nt B M I0 G w0 E s a w) {T : Tr} {as : List SV} (hi : inlOf cx (ev s.tm) o = some (T, as)) (hd : dOk cx o.dst = true) {g : Nat} {R : St → Prop} {K : Act → World → Prop}
    (hw : inlAt cx.nt s o.dst T as g R) (hK : ∀ E' s' a' w', Rel P cx.nt B M I0 G w0 E' s' a' w' → R s' → K a' w') : Oper.wp P o a w K Q := by
  rcases inlOf_some hi with ⟨c, f, fn, caps, ho, hc, hv, hT, rfl⟩ | ⟨it, c, ho, hv, rfl, rfl⟩
  rotate_left
  · unfold inlAt at hw
    rw [forceD_eq] at hw
    split at hw
    · rename_i hn
      rw [appK_eq] at hw
      obtain ⟨G', E', g1, g2, hm, hs⟩ := h.suspend hn
      have hf := hm _ _ (h.eval it)
      rw [hv] at hf
      obtain ⟨b, e1, e2, e3⟩ := hf.inv_itp
      obtain ⟨x, w', r, m', n1, n2, n3, n4⟩ := next_run (s := ⟨[], ghostR g s.tm cx.nt ++ s.mem⟩) hs e3 e2 hw o.type
      have hrun : (execOp a.eval o).run P w = .ok (.value x) w' := by
        simp [execOp, ho, e1, n1, Result.andThen]
      unfold Oper.wp
      rw [hrun]
      unfold behind at n4
      rw [forceM_eq] at n4
      split at n4
      · rename_i tm hr
        rw [dropK_eq] at n4
        obtain ⟨E3, hrel⟩ := Rel.resume (G := G) (a := a) (d := o.dst) h.tsize h.defers n2 g1 g2 hr n3 (dOk_lt hd)
        exact hK E3 _ _ _ hrel n4
      · exact n4.elim
    · exact hw.elim
  unfold inlAt at hw
  rw [forceD_eq] at hw
  split at hw
  · rename_i hn
    rw [appK_eq] at hw
    obtain ⟨G', E', g1, g2, hm, hs⟩ := h.suspend hn
    obtain ⟨fnd, hf1, hf2, hf3⟩ := hP.ib fn T hT
    have hf := h.eval f
    rw [hv] at hf
    obtain ⟨xs, e1, e2, e3⟩ := hf.inv_fn
    have hval : ∀ i, CV E (lkO s.mem) w (((c.args.toList.map a.eval) ++ xs.toList).getD i undef) (((c.args.toList.map (ev s.tm)) ++ caps).getD i .any) :=
      append_cv (by simp) (argsEval _ _ _ h.eval) (fun i => by simpa [List.getD_eq_getElem?_getD, Array.getD_eq_getD_getElem?] using e3 i)
    have hcall := hP.inl fn T hT (g + 1000) B M I0 G' w0 E' _ w _ ((c.args.map a.eval) ++ xs) _ hs (by simp; omega) (fun i => by
      have := hm _ _ (hval i)
      have e4 : ((c.args.map a.eval) ++ xs).getD i undef = ((c.args.toList.map a.eval) ++ xs.toList).getD i undef := by
        rw [Array.getD_eq_getD_getElem?, List.getD_eq_getElem?_getD, ← Array.getElem?_toList, Array.toList_append, Array.toList_map]
      rw [e4]; exact this) hw
    have hrun : (execOp a.eval o).run P w = .ok (.enter fn ((c.args.map a.eval) ++ xs)) w := by
      simp only [execOp, ho, _root_.Go.resolve, hc, Sem.run_bind, e1, Deferred.ofValue, Sem.run_pure, Result.andThen_ok, invoke, callFunc, run_program, hf1, hf3, hf2, Bool.false_eq_true, if_false, Array.empty_append]
    unfold Oper.wp
    rw [hrun]
    refine hcall.mono ?_
    rintro ed w' ⟨x, r, m', E2, rfl, q1, q2, q3⟩
    unfold behind at q3
    rw [forceM_eq] at q3
    split at q3
    · rename_i tm hr
      rw [dropK_eq] at q3
      obtain ⟨E3, hrel⟩ := Rel.resume (G := G) (a := a) (d := o.dst) h.tsize h.defers q1 g1 g2 hr q2 (dOk_lt hd)
      exact hK E3 _ _ _ hrel q3
    · exact q3.elim
  · exact hw.elim

/-- The operations, in the order of the text; calls gone through in place. -/
theorem opsI_run (hP : CxOk P cx) {ops : Array Oper} {id : Nat} {K : St → Prop} (hR : ∀ E s a w, Rel P cx.nt B M I0 G w0 E s a w → K s → Q .normal a w) :
    ∀ (l : List Oper) (i : Nat) (E : Env) (s : St) (a : Act) (w : World), (∀ j, l[j]? = ops[i + j]?) → Rel P cx.nt B M I0 G w0 E s a w → wpRI cx id ops.toList K l i s → wpOps P ops Q (List.range' i l.length) a w
  | [], i, E, s, a, w, _, h, hr => by
    simp only [List.length_nil, List.range'_zero, wpOps]
    exact hR E s a w h hr
  | o :: r, i, E, s, a, w, hl, h, hr => by
    have hi : ops[i]? = some o := by simpa using (hl 0).symm
    have hl' : ∀ j, r[j]? = ops[i + 1 + j]? := fun j => by have := hl (j + 1); simpa [Nat.add_assoc, Nat.add_comm 1 j] using this
    simp only [List.length_cons, List.range'_succ, wpOps_cons]
    unfold wpRI at hr
    split at hr
    · rename_i T as hin
      split at hr
      · rename_i hd hw
        unfold wpOp
        simp only [hi]
        rw [if_pos (wantB_run h hw)]
        exact .inl (inl_wp hP h hin hd hr (fun E' s' a' w' h' hk => opsI_run hP hR r (i + 1) E' s' a' w' hl' h' hk))
      · rename_i hd hw
        refine op_step hP h hi hd (e := ⟨none, .und, [], []⟩) (.inr ⟨hw, rfl, rfl, rfl⟩) (fun E' a' w' h' => ?_)
        exact opsI_run hP hR r (i + 1) E' _ a' w' hl' h' hr
      · exact hr.elim
    · obtain ⟨es, hp, hk⟩ := wpR_path _ _ _ _ _ _ hr
      obtain ⟨e, es', rfl, hd, hs, hp'⟩ := hp
      have : es' = [] := hp'
      subst this
      refine op_step hP h hi hd hs (fun E' a' w' h' => ?_)
      exact opsI_run hP hR r (i + 1) E' _ a' w' hl' h' hk

theorem regionI_run (hP : CxOk P cx) {ops : Array Oper} {id : Nat} {K : St → Prop} (hR : ∀ E s a w, Rel P cx.nt B M I0 G w0 E s a w → K s → Q .normal a w) (h : Rel P cx.nt B M I0 G w0 E s a w) (hr : wpRI cx id ops.toList K ops.toList 0 s) :
    (Code.region id ops false).wp P Q a w := by
  refine wp_region ?_
  rw [List.range_eq_range', ← Array.length_toList]
  exact opsI_run hP hR ops.toList 0 E s a w (by simp) h hr

theorem sel_none : ∀ (l : List Oper) (es : List Eff) (i : Nat) (s : St), selS (fun _ => false) l es i s = s
  | [], es, i, s => by cases es <;> rfl
  | o :: r, [], i, s => rfl
  | o :: r, e :: es, i, s => by simp only [selS]; exact sel_none r es (i + 1) s

/-- May a segment's operations be carried out in whatever order they may? -/
theorem seg_run (hP : CxOk P cx) {ops : Array Oper} {lo hi : Nat} {l : List Oper} {es : List Eff} {s0 : St} (hlo : lo ≤ hi) (hhi : hi ≤ ops.size) (hll : l.length = hi - lo) (hl : ∀ k, k < hi - lo → l[k]? = ops.toList[lo + k]?)
    (hp : Path cx ops.toList l s0 es) (hedge : ∀ i o, ops.toList[i]? = some o → edgesOk o i = true)
    (hpair : ∀ i j oi oj ei ej, i < j → l[i]? = some oi → l[j]? = some oj → es[i]? = some ei → es[j]? = some ej → ((befN ops.toList []).getD (lo + j) 0).testBit (lo + i) = true ∨ apartE ops.toList oi oj ei ej = true)
    (hbar : ∀ j, hi ≤ j → j < ops.size → (j = hi ∧ ∀ i, lo ≤ i → i < hi → ((befN ops.toList []).getD hi 0).testBit i = true) ∨ (hi < j ∧ ((befN ops.toList []).getD j 0).testBit hi = true))
    (hend : ∀ (fuel : Nat) (listed : Array Bool) (E : Env) (a : Act) (w : World), listed.size = ops.size → toCome ops.size listed = fuel → Closed ops.toList (fun i => listed.getD i false) → (∀ i, i < hi → listed.getD i false = true) → (∀ i, hi ≤ i → listed.getD i false = false) →
      Rel P cx.nt B M I0 G w0 E (endS l es s0) a w → wpAny P .any ops Q fuel listed a w) :
    ∀ (fuel : Nat) (listed : Array Bool) (E : Env) (a : Act) (w : World), listed.size = ops.size → toCome ops.size listed = fuel → Closed ops.toList (fun i => listed.getD i false) → (∀ i, i < lo → listed.getD i false = true) → (∀ i, hi ≤ i → listed.getD i false = false) →
      Rel P cx.nt B M I0 G w0 E (selS (fun i => listed.getD i false) l es lo s0) a w → wpAny P .any ops Q fuel listed a w := by
  have hlen := path_length ops.toList l s0 es hp
  intro fuel
  have last : ∀ (listed : Array Bool), listed.size = ops.size → Region.ready .any ops listed = [] → ∀ i, i < ops.size → listed.getD i false = true := by
    intro listed hsz hnone i
    induction i using Nat.strongRecOn with
    | _ i ih =>
      intro hi
      cases hl : listed.getD i false with
      | true => rfl
      | false =>
        exfalso
        have : i ∈ Region.ready .any ops listed := by
          rw [mem_ready]
          have hoi : ops[i]? = some ops[i] := Array.getElem?_eq_getElem hi
          refine ⟨?_, ops[i], hoi, fun e he hb => ?_⟩
          · rw [Array.getD_eq_getD_getElem?, Array.getElem?_eq_getElem (by omega)] at hl ⊢
            simpa using hl
          · have hed := hedge i ops[i] (by simp)
            unfold edgesOk at hed
            rw [List.all_eq_true] at hed
            have := hed e (by simpa using he)
            rw [hb] at this
            have hlt : e.on < i := by simpa [Nat.blt_eq] using this
            exact ih e.on hlt (by omega)
        rw [hnone] at this
        cases this
  induction fuel with
  | zero =>
    intro listed E a w hsz hc hcl hA hB h
    have hall := toCome_zero hsz hc
    refine hend 0 listed E a w hsz hc hcl (fun i hi => hall i (by omega)) hB (h.congr (s' := endS l es s0) (fun t => ?_) (fun c => ?_))
    · rw [← sel_all l es lo s0]
      refine (sel_tm _ _ _ _ _ rfl (fun j o' hj _ => ?_))
      rw [hall (lo + j) (by have := (List.getElem?_eq_some_iff.1 hj).1; omega)]
    · rw [← sel_all l es lo s0]
      refine (sel_mem _ _ _ _ _ rfl (fun j e' hj _ => ?_))
      rw [hall (lo + j) (by have := (List.getElem?_eq_some_iff.1 hj).1; omega)]
  | succ fuel ih =>
    intro listed E a w hsz hc hcl hA hB h
    by_cases hall : ∀ i, i < hi → listed.getD i false = true
    · refine hend (fuel + 1) listed E a w hsz hc hcl hall hB (h.congr (s' := endS l es s0) (fun t => ?_) (fun c => ?_))
      · rw [← sel_all l es lo s0]
        refine (sel_tm _ _ _ _ _ rfl (fun j o' hj _ => ?_))
        rw [hall (lo + j) (by have := (List.getElem?_eq_some_iff.1 hj).1; omega)]
      · rw [← sel_all l es lo s0]
        refine (sel_mem _ _ _ _ _ rfl (fun j e' hj _ => ?_))
        rw [hall (lo + j) (by have := (List.getElem?_eq_some_iff.1 hj).1; omega)]
    refine ⟨fun hnone => absurd (fun i hi => last listed hsz hnone i (by omega)) hall, fun j hj => ?_⟩
    obtain ⟨hju, oj, hoj, hdep⟩ := mem_ready.1 hj
    have hjlt : j < ops.size := (Array.getElem?_eq_some_iff.1 hoj).1
    have hoj'' : ops.toList[j]? = some oj := by simpa using hoj
    have hjf : listed.getD j false = false := by
      rw [Array.getD_eq_getD_getElem?, Array.getElem?_eq_getElem (by omega)] at hju ⊢
      simpa using hju
    have hready : Ready oj (fun i => listed.getD i false) := fun e he hb => hdep e (by simpa using he) hb
    have hbef0 := fun i hi => befN_bit hcl hedge ops.toList 0 [] (by simp) rfl (fun j o h => by omega) j oj hoj'' hready i hi
    have hjlo : lo ≤ j := by
      rcases Nat.lt_or_ge j lo with h1 | h1
      · rw [hA j h1] at hjf; cases hjf
      · exact h1
    have hjhi : j < hi := by
      rcases Nat.lt_or_ge j hi with h1 | h1
      · exact h1
      · exfalso
        rcases hbar j h1 hjlt with ⟨rfl, h2⟩ | ⟨h2, h3⟩
        · refine hall (fun i hi => ?_)
          rcases Nat.lt_or_ge i lo with h3 | h3
          · exact hA i h3
          · exact hbef0 i (h2 i h3 hi)
        · have := hbef0 hi h3
          rw [hB hi (Nat.le_refl _)] at this
          cases this
    obtain ⟨jj, rfl⟩ : ∃ jj, j = lo + jj := ⟨j - lo, by omega⟩
    have hoj' : l[jj]? = some oj := by rw [hl jj (by omega)]; exact hoj''
    have hej : ∃ ej, es[jj]? = some ej := ⟨_, List.getElem?_eq_getElem (by rw [hlen, hll]; omega)⟩
    obtain ⟨ej, hej⟩ := hej
    have lget : ∀ k ok, l[k]? = some ok → ops.toList[lo + k]? = some ok := fun k ok hk => by
      have : k < hi - lo := by have := (List.getElem?_eq_some_iff.1 hk).1; omega
      rw [← hl k this]; exact hk
    -- what is done and what is behind
    have F3 : ∀ i oi ei, i < jj → l[i]? = some oi → es[i]? = some ei → listed.getD (lo + i) false = false → apartE ops.toList oi oj ei ej = true := by
      intro i oi ei hij hoi hei hli
      rcases hpair i jj oi oj ei ej hij hoi hoj' hei hej with h1 | h1
      · have := hbef0 (lo + i) h1
        simp only [hli] at this
        cases this
      · exact h1
    have F2 : ∀ i oi ei, jj < i → l[i]? = some oi → es[i]? = some ei → listed.getD (lo + i) false = true → apartE ops.toList oj oi ej ei = true := by
      intro i oi ei hij hoi hei hli
      rcases hpair jj i oj oi ej ei hij hoj' hoi hej hei with h1 | h1
      · have hri : Ready oi (fun i => listed.getD i false) := fun e he hb => hcl (lo + i) oi (lget i oi hoi) hli e he hb
        have := befN_bit hcl hedge ops.toList 0 [] (by simp) rfl (fun j o h => by omega) (lo + i) oi (lget i oi hoi) hri (lo + jj) h1
        simp only [hjf] at this
        cases this
      · exact h1
    have hget := path_get ops.toList l s0 es lo hp jj oj ej hoj' hej
    obtain ⟨hd, hstep⟩ := hget
    have exE : ∀ k ok, l[k]? = some ok → ∃ ek, es[k]? = some ek := fun k ok hk => ⟨_, List.getElem?_eq_getElem (by rw [hlen]; exact (List.getElem?_eq_some_iff.1 hk).1)⟩
    have exO : ∀ k ek, es[k]? = some ek → ∃ ok, l[k]? = some ok := fun k ek hk => ⟨_, List.getElem?_eq_getElem (by rw [← hlen]; exact (List.getElem?_eq_some_iff.1 hk).1)⟩
    have unA : ∀ {x y : Oper} {ex ey : Eff}, apartE ops.toList x y ex ey = true → disj x.dst.toList (y.dst.toList ++ looks ops.toList y) = true ∧ disj y.dst.toList (looks ops.toList x) = true ∧ disj (ex.ch.map (·.1)) (ey.ch.map (·.1) ++ ey.rd) = true ∧ disj (ey.ch.map (·.1)) ex.rd = true := by
      intro x y ex ey hh
      unfold apartE at hh
      simp only [Bool.and_eq_true] at hh
      exact ⟨hh.1.1.1, hh.1.1.2, hh.1.2, hh.2⟩
    have hstep' : Step cx ops.toList (selS (fun i => listed.getD i false) l es lo s0) oj ej := by
      refine hstep.move (fun t ht => ?_) (fun c hc => ?_)
      · refine sel_tm _ _ _ _ _ rfl (fun k ok hk hdk => ?_)
        obtain ⟨ek, hek⟩ := exE k ok hk
        rcases Nat.lt_trichotomy k jj with hkj | hkj | hkj
        · rw [decide_eq_true (by omega)]
          cases hlk : listed.getD (lo + k) false with
          | true => rfl
          | false =>
            have := (unA (F3 k ok ek hkj hk hek hlk)).1
            exact (disj_not this (x := t) (by rw [hdk]; simp) (List.mem_append.2 (.inr ht))).elim
        · subst hkj
          rw [decide_eq_false (by omega)]
          exact hjf
        · rw [decide_eq_false (by omega)]
          cases hlk : listed.getD (lo + k) false with
          | false => rfl
          | true =>
            have := (unA (F2 k ok ek hkj hk hek hlk)).2.1
            exact (disj_not this (x := t) (by rw [hdk]; simp) ht).elim
      · refine sel_mem _ _ _ _ _ rfl (fun k ek hek hck => ?_)
        obtain ⟨ok, hk⟩ := exO k ek hek
        rcases Nat.lt_trichotomy k jj with hkj | hkj | hkj
        · rw [decide_eq_true (by omega)]
          cases hlk : listed.getD (lo + k) false with
          | true => rfl
          | false =>
            have := (unA (F3 k ok ek hkj hk hek hlk)).2.2.1
            exact (disj_not this (x := c) (keys_of hck) (List.mem_append.2 (.inr hc))).elim
        · subst hkj
          rw [decide_eq_false (by omega)]
          exact hjf
        · rw [decide_eq_false (by omega)]
          cases hlk : listed.getD (lo + k) false with
          | false => rfl
          | true =>
            have := (unA (F2 k ok ek hkj hk hek hlk)).2.2.2
            exact (disj_not this (x := c) (keys_of hck) hc).elim
    refine op_step hP h hoj hd hstep' (fun E' a' w' h' => ?_)
    have hset : ∀ k, k ≠ lo + jj → (listed.setIfInBounds (lo + jj) true).getD k false = listed.getD k false := fun k hk => getD_set_ne false (Ne.symm hk)
    have hsetj : (listed.setIfInBounds (lo + jj) true).getD (lo + jj) false = true := by simp [Array.getD_eq_getD_getElem?, hsz, hjlt]
    refine ih (listed.setIfInBounds (lo + jj) true) E' a' w' (by simp [hsz]) (by have := toCome_set hsz hju; omega) (fun i oi hoi hi e he hb => ?_) (fun i hi => by rw [hset i (by omega)]; exact hA i hi) (fun i hi => by rw [hset i (by omega)]; exact hB i hi) (h'.congr (fun t => ?_) (fun c => ?_))
    · by_cases hij : i = lo + jj
      · subst hij
        rw [hoj''] at hoi
        cases hoi
        exact getD_set_true (hready e he hb)
      · simp only [hset i hij] at hi
        exact getD_set_true (hcl i oi hoi hi e he hb)
    · by_cases hdt : oj.dst = some t
      · rw [sel_tm_last l es lo s0 jj oj ej hoj' hej hdt hsetj (fun k ok hjk hk hdk => ?_)]
        · simp only [upd, hdt]; rw [lk_cons, if_pos rfl]
        · have hne : lo + k ≠ lo + jj := by omega
          simp only [hset (lo + k) hne]
          obtain ⟨ek, hek⟩ := exE k ok hk
          cases hlk : listed.getD (lo + k) false with
          | false => rfl
          | true =>
            have := (unA (F2 k ok ek hjk hk hek hlk)).1
            exact (disj_not this (x := t) (by rw [hdt]; simp) (List.mem_append.2 (.inl (by rw [hdk]; simp)))).elim
      · have e1 : lk .any (upd (selS (fun i => listed.getD i false) l es lo s0) oj.dst ej.v ej.ch).tm t = lk .any (selS (fun i => listed.getD i false) l es lo s0).tm t := by
          simp only [upd]
          cases hq : oj.dst with
          | none => rfl
          | some d => rw [lk_cons, if_neg (fun e => hdt (by rw [hq, e]))]
        rw [e1]
        refine sel_tm _ _ _ _ _ rfl (fun k ok hk hdk => ?_)
        have hne : lo + k ≠ lo + jj := fun e => by (obtain rfl : k = jj := by omega); rw [hoj'] at hk; cases hk; exact hdt hdk
        exact hset (lo + k) hne
    · cases hct : lkO ej.ch c with
      | some v =>
        rw [sel_mem_last l es lo s0 jj ej (by omega) hej hct hsetj (fun k ek hjk hek hck => ?_)]
        · simp only [upd]; rw [lkO_append, hct]
        · have hne : lo + k ≠ lo + jj := by omega
          simp only [hset (lo + k) hne]
          obtain ⟨ok, hk⟩ := exO k ek hek
          cases hlk : listed.getD (lo + k) false with
          | false => rfl
          | true =>
            have := (unA (F2 k ok ek hjk hk hek hlk)).2.2.1
            exact (disj_not this (x := c) (keys_of (by rw [hct]; simp)) (List.mem_append.2 (.inl (keys_of hck)))).elim
      | none =>
        have e1 : lkO (upd (selS (fun i => listed.getD i false) l es lo s0) oj.dst ej.v ej.ch).mem c = lkO (selS (fun i => listed.getD i false) l es lo s0).mem c := by
          simp only [upd]; rw [lkO_append, hct]
        rw [e1]
        refine sel_mem _ _ _ _ _ rfl (fun k ek hek hck => ?_)
        have hne : lo + k ≠ lo + jj := fun e => by (obtain rfl : k = jj := by omega); rw [hej] at hek; cases hek; exact hck hct
        exact hset (lo + k) hne

theorem path_app (all : List Oper) : ∀ (l : List Oper) (s : St) (es : List Eff) (o : Oper) (e : Eff), Path cx all l s es → dOk cx o.dst = true → Step cx all (endS l es s) o e → Path cx all (l ++ [o]) s (es ++ [e]) ∧ endS (l ++ [o]) (es ++ [e]) s = upd (endS l es s) o.dst e.v e.ch
  | [], s, es, o, e, h, hd, hs => by
    have : es = [] := h
    subst this
    exact ⟨⟨e, [], rfl, hd, hs, rfl⟩, rfl⟩
  | o0 :: r, s, es, o, e, h, hd, hs => by
    obtain ⟨e0, es', rfl, h1, h2, h3⟩ := h
    obtain ⟨q1, q2⟩ := path_app all r _ es' o e h3 hd hs
    exact ⟨⟨e0, es' ++ [e], rfl, h1, h2, q1⟩, q2⟩
theorem endF_app : ∀ (es : List Eff) (i : Nat) (fs : List (Nat × Eff)) (e : Eff), endF i (es ++ [e]) fs = (i + es.length, e) :: endF i es fs
  | [], i, fs, e => by simp [endF]
  | e0 :: es, i, fs, e => by
    simp only [List.cons_append, endF]
    rw [endF_app es (i + 1) _ e, List.length_cons, show i + 1 + es.length = i + (es.length + 1) by omega]

theorem edgB_get {all : List Oper} (h : edgB all = true) : ∀ i o, all[i]? = some o → edgesOk o i = true := by
  intro i o ho
  unfold edgB at h
  rw [List.all_eq_true] at h
  have := h (o, i) (by rw [List.mem_iff_getElem?]; exact ⟨i, by simp [List.getElem?_zipIdx, ho]⟩)
  simp only [Bool.and_eq_true] at this
  exact this.2

theorem indS_get {all : List Oper} {b : List Nat} {lo n : Nat} {l : List Oper} {es : List Eff} (h : indS all b lo n (endF lo es []) = true) (hl : l.length = n) (he : es.length = n) (hla : ∀ k, k < n → l[k]? = all[lo + k]?) :
    ∀ i j oi oj ei ej, i < j → l[i]? = some oi → l[j]? = some oj → es[i]? = some ei → es[j]? = some ej → (b.getD (lo + j) 0).testBit (lo + i) = true ∨ apartE all oi oj ei ej = true := by
  intro i j oi oj ei ej hij hoi hoj hei hej
  have hj : j < n := by have := (List.getElem?_eq_some_iff.1 hoj).1; omega
  unfold indS at h
  rw [List.all_eq_true] at h
  have h1 := h j (List.mem_range.2 hj)
  rw [List.all_eq_true] at h1
  have h2 := h1 i (List.mem_range.2 hij)
  unfold pairB at h2
  rw [Bool.or_eq_true] at h2
  rcases h2 with h2 | h2
  · exact .inl h2
  · have q : ∀ k e, es[k]? = some e → lkO (endF lo es []) (lo + k) = some e := fun k e hk => by
      rw [lkO_endF, if_pos ⟨by omega, by have := (List.getElem?_eq_some_iff.1 hk).1; omega⟩]
      have : lo + k - lo = k := by omega
      rw [this]; exact hk
    rw [q i ei hei, q j ej hej, ← hla i (by omega), ← hla j hj, hoi, hoj] at h2
    exact .inr h2

theorem drawn_run (hP : CxOk P cx) {ops : Array Oper} {id : Nat} {K : St → Prop} (hR : ∀ E s a w, Rel P cx.nt B M I0 G w0 E s a w → K s → Q .normal a w) (hedge : ∀ i o, ops.toList[i]? = some o → edgesOk o i = true) :
    ∀ (r : List Oper) (lo : Nat) (l1 : List Oper) (es1 : List Eff) (s0 : St), (∀ k, (l1 ++ r)[k]? = ops.toList[lo + k]?) → Path cx ops.toList l1 s0 es1 →
      wpRD cx id ops.toList (befN ops.toList []) K r lo (lo + l1.length) (endS l1 es1 s0) (endF lo es1 []) →
      ∀ (fuel : Nat) (listed : Array Bool) (E : Env) (a : Act) (w : World), listed.size = ops.size → toCome ops.size listed = fuel → Closed ops.toList (fun i => listed.getD i false) → (∀ i, i < lo → listed.getD i false = true) → (∀ i, lo ≤ i → listed.getD i false = false) →
        Rel P cx.nt B M I0 G w0 E s0 a w → lo ≤ ops.size → wpAny P .any ops Q fuel listed a w
  | [], lo, l1, es1, s0, hl, hp, hr, fuel, listed, E, a, w, hsz, hc, hcl, hA, hB, h, hlo => by
    have hlen := path_length ops.toList l1 s0 es1 hp
    have hsize : lo + l1.length = ops.size := by
      have h1 := hl l1.length
      rw [List.append_nil, List.getElem?_eq_none (Nat.le_refl _)] at h1
      have h2 : ops.size ≤ lo + l1.length := by have := List.getElem?_eq_none_iff.1 h1.symm; simpa using this
      rcases Nat.eq_zero_or_pos l1.length with h3 | h3
      · omega
      · have h4 := hl (l1.length - 1)
        rw [List.append_nil, List.getElem?_eq_getElem (by omega)] at h4
        have := (List.getElem?_eq_some_iff.1 h4.symm).1
        simp at this; omega
    unfold wpRD at hr
    have e0 : lo + l1.length - lo = l1.length := by omega
    rw [e0] at hr
    split at hr
    · rename_i hind
      refine seg_run hP (lo := lo) (hi := lo + l1.length) (l := l1) (es := es1) (s0 := s0) (by omega) (by omega) (by omega) (fun k hk => by have := hl k; rwa [List.append_nil] at this) hp hedge
        (indS_get hind rfl hlen (fun k hk => by have := hl k; rwa [List.append_nil] at this)) (fun j h1 h2 => by omega) (fun fuel listed E a w hsz hc hcl hA hB h => ?_) fuel listed E a w hsz hc hcl hA (fun i hi => hB i (by omega)) (h.congr (fun t => ?_) (fun c => ?_))
      · have hall : ∀ i, i < ops.size → listed.getD i false = true := fun i hi => hA i (by omega)
        have hnone : ∀ j, j ∈ Region.ready .any ops listed → False := fun j hj => by
          obtain ⟨h1, ox, hox, _⟩ := mem_ready.1 hj
          have hlt : j < ops.size := (Array.getElem?_eq_some_iff.1 hox).1
          have := hall j hlt
          rw [Array.getD_eq_getD_getElem?, Array.getElem?_eq_getElem (by omega)] at this h1
          simp at this h1
          rw [this] at h1; cases h1
        cases fuel with
        | zero => exact ⟨List.eq_nil_iff_forall_not_mem.2 (fun j hj => hnone j hj), hR _ _ _ _ h hr⟩
        | succ fuel => exact ⟨fun _ => hR _ _ _ _ h hr, fun j hj => (hnone j hj).elim⟩
      · rw [sel_tm (D' := fun _ => false) l1 es1 lo s0 s0 rfl (fun j o' _ _ => hB _ (by omega)), sel_none]
      · rw [sel_mem (D' := fun _ => false) l1 es1 lo s0 s0 rfl (fun j o' _ _ => hB _ (by omega)), sel_none]
    · exact hr.elim
  | o :: r, lo, l1, es1, s0, hl, hp, hr, fuel, listed, E, a, w, hsz, hc, hcl, hA, hB, h, hlo => by
    have hlen := path_length ops.toList l1 s0 es1 hp
    have ho : ops.toList[lo + l1.length]? = some o := by
      have := hl l1.length
      rw [List.getElem?_append_right (Nat.le_refl _), Nat.sub_self] at this
      simpa using this.symm
    have hlt : lo + l1.length < ops.size := by have := (List.getElem?_eq_some_iff.1 ho).1; simpa using this
    have hl' : ∀ k, ((l1 ++ [o]) ++ r)[k]? = ops.toList[lo + k]? := fun k => by rw [List.append_assoc]; exact hl k
    have go : ∀ e, dOk cx o.dst = true → Step cx ops.toList (endS l1 es1 s0) o e → wpRD cx id ops.toList (befN ops.toList []) K r lo (lo + l1.length + 1) (upd (endS l1 es1 s0) o.dst e.v e.ch) ((lo + l1.length, e) :: endF lo es1 []) → wpAny P .any ops Q fuel listed a w := fun e hd hs hk => by
      obtain ⟨q1, q2⟩ := path_app ops.toList l1 s0 es1 o e hp hd hs
      refine drawn_run (id := id) hP hR hedge r lo (l1 ++ [o]) (es1 ++ [e]) s0 hl' q1 ?_ fuel listed E a w hsz hc hcl hA hB h hlo
      rw [q2, endF_app, hlen, List.length_append, List.length_singleton, ← Nat.add_assoc]
      exact hk
    unfold wpRD at hr
    split at hr
    · rename_i T as hin
      split at hr
      · rename_i hd hw
        have e0 : lo + l1.length - lo = l1.length := by omega
        rw [e0] at hr
        split at hr
        · rename_i hind hbar
          unfold barB at hbar
          rw [Bool.and_eq_true, List.all_eq_true, List.all_eq_true] at hbar
          obtain ⟨hb1, hb2⟩ := hbar
          have hla : ∀ k, k < l1.length → l1[k]? = ops.toList[lo + k]? := fun k hk => by
            have := hl k
            rwa [List.getElem?_append_left hk] at this
          have hbj : ∀ j, lo + l1.length < j → j < ops.size → ((befN ops.toList []).getD j 0).testBit (lo + l1.length) = true := fun j h1 h2 => by
            have := hb2 j (List.mem_range.2 (by simpa using h2))
            rw [Bool.or_eq_true] at this
            rcases this with h3 | h3
            · have := Nat.le_of_ble_eq_true h3; omega
            · exact h3
          refine seg_run hP (lo := lo) (hi := lo + l1.length) (l := l1) (es := es1) (s0 := s0) (by omega) (by omega) (by omega) (fun k hk => hla k (by omega)) hp hedge
            (indS_get hind rfl hlen hla) (fun j h1 h2 => ?_) (fun fuel listed E a w hsz hc hcl hA hB h => ?_) fuel listed E a w hsz hc hcl hA (fun i hi => hB i (by omega)) (h.congr (fun t => ?_) (fun c => ?_))
          · rcases Nat.lt_or_ge (lo + l1.length) j with h3 | h3
            · exact .inr ⟨h3, hbj j h3 h2⟩
            · refine .inl ⟨by omega, fun i h4 h5 => ?_⟩
              have := hb1 (i - lo) (List.mem_range.2 (by omega))
              have e1 : lo + (i - lo) = i := by omega
              rwa [e1] at this
          · have hcf := hB (lo + l1.length) (Nat.le_refl _)
            have hcr : (lo + l1.length) ∈ Region.ready .any ops listed := by
              rw [mem_ready]
              refine ⟨?_, o, by simpa using ho, fun e he hb => ?_⟩
              · rw [Array.getD_eq_getD_getElem?, Array.getElem?_eq_getElem (by omega)] at hcf ⊢
                simpa using hcf
              · have hed := hedge _ o ho
                unfold edgesOk at hed
                rw [List.all_eq_true] at hed
                have := hed e (by simpa using he)
                rw [hb] at this
                have hlt : e.on < lo + l1.length := by simpa [Nat.blt_eq] using this
                exact hA e.on hlt
            have honly : ∀ j, j ∈ Region.ready .any ops listed → j = lo + l1.length ∧ listed.getD j true = false := fun j hj => by
              obtain ⟨hju, oj, hoj, hdep⟩ := mem_ready.1 hj
              have hjlt : j < ops.size := (Array.getElem?_eq_some_iff.1 hoj).1
              have hjf : listed.getD j false = false := by
                rw [Array.getD_eq_getD_getElem?, Array.getElem?_eq_getElem (by omega)] at hju ⊢
                simpa using hju
              refine ⟨?_, hju⟩
              rcases Nat.lt_trichotomy j (lo + l1.length) with h1 | h1 | h1
              · rw [hA j h1] at hjf; cases hjf
              · exact h1
              · have hready : Ready oj (fun i => listed.getD i false) := fun e he hb => hdep e (by simpa using he) hb
                have := befN_bit hcl hedge ops.toList 0 [] (by simp) rfl (fun j o h => by omega) j oj (by simpa using hoj) hready _ (hbj j h1 hjlt)
                rw [hcf] at this; cases this
            have hju := (honly _ hcr).2
            have hset : ∀ k, k ≠ lo + l1.length → (listed.setIfInBounds (lo + l1.length) true).getD k false = listed.getD k false := fun k hk => getD_set_ne false (Ne.symm hk)
            have hsetj : (listed.setIfInBounds (lo + l1.length) true).getD (lo + l1.length) false = true := by simp [Array.getD_eq_getD_getElem?, hsz, hlt]
            cases fuel with
            | zero =>
              have := toCome_zero hsz hc _ hlt
              rw [hcf] at this; cases this
            | succ fuel =>
              refine ⟨fun hnone => (by rw [hnone] at hcr; cases hcr), fun j hj => ?_⟩
              obtain ⟨rfl, _⟩ := honly j hj
              unfold wpOp
              have ho' : ops[lo + l1.length]? = some o := by simpa using ho
              simp only [ho']
              rw [if_pos (wantB_run h hw)]
              refine .inl (inl_wp hP h hin hd hr (fun E' s' a' w' h' hk => ?_))
              refine drawn_run (id := id) hP hR hedge r (lo + l1.length + 1) [] [] s' (fun k => ?_) rfl hk fuel _ E' a' w' (by simp [hsz]) (by have := toCome_set hsz hju; omega) (fun i oi hoi hi e he hb => ?_) (fun i hi => ?_) (fun i hi => by rw [hset i (by omega)]; exact hB i (by omega)) h' (by omega)
              · have := hl (l1.length + 1 + k)
                rw [List.getElem?_append_right (by omega), show l1.length + 1 + k - l1.length = k + 1 by omega, List.getElem?_cons_succ] at this
                rw [List.nil_append, this]
                congr 1; omega
              · by_cases hij : i = lo + l1.length
                · subst hij
                  rw [ho] at hoi
                  cases hoi
                  have hed := hedge _ o ho
                  unfold edgesOk at hed
                  rw [List.all_eq_true] at hed
                  have := hed e he
                  rw [hb] at this
                  have hlt : e.on < lo + l1.length := by simpa [Nat.blt_eq] using this
                  exact getD_set_true (hA e.on hlt)
                · simp only [hset i hij] at hi
                  exact getD_set_true (hcl i oi hoi hi e he hb)
              · by_cases hij : i = lo + l1.length
                · subst hij; exact hsetj
                · rw [hset i hij]; exact hA i (by omega)
          · rw [sel_tm (D' := fun _ => false) l1 es1 lo s0 s0 rfl (fun j o' _ _ => hB _ (by omega)), sel_none]
          · rw [sel_mem (D' := fun _ => false) l1 es1 lo s0 s0 rfl (fun j o' _ _ => hB _ (by omega)), sel_none]
        · exact hr.elim
      · rename_i hd hw
        exact go ⟨none, .und, [], []⟩ hd (.inr ⟨hw, rfl, rfl, rfl⟩) hr
      · exact hr.elim
    · obtain ⟨es, hp', hk⟩ := wpR_path _ _ _ _ _ _ hr
      obtain ⟨e, es', rfl, hd, hs, hp''⟩ := hp'
      have : es' = [] := hp''
      subst this
      exact go e hd hs hk

theorem regionD_run (hP : CxOk P cx) {ops : Array Oper} {id : Nat} {K : St → Prop} (hR : ∀ E s a w, Rel P cx.nt B M I0 G w0 E s a w → K s → Q .normal a w) (h : Rel P cx.nt B M I0 G w0 E s a w) (he : edgB ops.toList = true) (hr : wpRD cx id ops.toList (befN ops.toList []) K ops.toList 0 0 s []) :
    (Code.region id ops true).wp P Q a w := by
  refine wp_region_any hP.mixed ?_
  have h0 : ∀ i, (Array.replicate ops.size false).getD i false = false := fun i => by
    simp only [Array.getD_eq_getD_getElem?, Array.getElem?_replicate]
    split <;> rfl
  have hc : ∀ n, toCome n (Array.replicate n false) = n := fun n => by
    unfold toCome
    rw [List.filter_eq_self.2 (fun i hi => by
      have := List.mem_range.1 hi
      simp [Array.getD_eq_getD_getElem?, this])]
    simp
  exact drawn_run (id := id) hP hR (edgB_get he) ops.toList 0 [] [] s (fun k => by rw [List.nil_append, Nat.zero_add]) rfl hr ops.size (Array.replicate ops.size false) E a _ (by simp) (hc ops.size) (fun i oi _ hi => by simp only [h0] at hi; cases hi) (fun i hi => by omega) (fun i _ => h0 i) h.drew (Nat.zero_le _)
end
end Go.Rx

