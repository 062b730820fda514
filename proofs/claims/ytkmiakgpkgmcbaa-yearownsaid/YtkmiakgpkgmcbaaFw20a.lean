/- The framework, part 21a: calls that are gone through in place. -/
import Derived.Test.YtkmiakgpkgmcbaaFw20
namespace Go.Rx
set_option linter.unusedSectionVars false
open Go.RowKit

theorem ghostR_lk (g : Nat) (tm : List (Nat × SV)) : ∀ (n k : Nat), lkO (ghostR g tm n) k = if g ≤ k ∧ k < g + n then (match lkO tm (k - g) with | some v => some (.gh v) | none => none) else none
  | 0, k => by rw [if_neg (by omega)]; rfl
  | n + 1, k => by
    have ih := ghostR_lk g tm n k
    unfold ghostR
    split
    · rename_i v hv
      rw [lkO_cons, ih]
      by_cases e : g + n = k
      · subst e
        rw [if_pos rfl, if_pos (by omega)]
        have : g + n - g = n := by omega
        rw [this, hv]
      · rw [if_neg e]
        by_cases h : g ≤ k ∧ k < g + n
        · rw [if_pos h, if_pos (by omega)]
        · rw [if_neg h, if_neg (by omega)]
    · rename_i hv
      rw [ih]
      by_cases h : g ≤ k ∧ k < g + n
      · rw [if_pos h, if_pos (by omega)]
      · rw [if_neg h]
        by_cases e : k = g + n
        · subst e
          rw [if_pos (by omega)]
          have : g + n - g = n := by omega
          rw [this, hv]
        · rw [if_neg (by omega)]

theorem inR_iff {g n k : Nat} : inR g n k = true ↔ g ≤ k ∧ k < g + n := by
  unfold inR
  rw [Bool.and_eq_true]
  constructor
  · rintro ⟨h1, h2⟩; exact ⟨Nat.le_of_ble_eq_true h1, by rw [Nat.blt_eq] at h2; exact h2⟩
  · rintro ⟨h1, h2⟩; exact ⟨Nat.ble_eq_true_of_le h1, by rw [Nat.blt_eq]; exact h2⟩

theorem noR_lk {g n : Nat} : ∀ {m : List (Nat × Chunk)}, noR g n m = true → ∀ k, g ≤ k ∧ k < g + n → lkO m k = none
  | [], _, k, _ => rfl
  | (k', c) :: r, h, k, hk => by
    unfold noR at h
    split at h
    · cases h
    · rename_i hr
      rw [lkO_cons, if_neg (fun e => by subst e; rw [inR_iff.2 hk] at hr; cases hr)]
      exact noR_lk h k hk

theorem dropR_lk (g n : Nat) : ∀ (m : List (Nat × Chunk)) (k : Nat), lkO (dropR g n m) k = if g ≤ k ∧ k < g + n then none else lkO m k
  | [], k => by simp [dropR, lkO]
  | (k', c) :: r, k => by
    unfold dropR
    split
    · rename_i hr
      rw [dropR_lk g n r k, lkO_cons]
      by_cases e : k' = k
      · subst e; rw [if_pos (inR_iff.1 hr), if_pos (inR_iff.1 hr)]
      · rw [if_neg e]
    · rename_i hr
      rw [lkO_cons, dropR_lk g n r k, lkO_cons]
      by_cases e : k' = k
      · subst e
        rw [if_pos rfl, if_neg (fun h => by rw [inR_iff.2 h] at hr; cases hr), if_pos rfl]
      · rw [if_neg e, if_neg e]

theorem dropR_none : ∀ (m : List (Nat × Chunk)), dropR 0 0 m = m
  | [] => rfl
  | (x, c) :: r => by
    unfold dropR
    have : inR 0 0 x = false := by
      cases h : inR 0 0 x with
      | false => rfl
      | true => have := inR_iff.1 h; omega
    rw [this, dropR_none r]
theorem dropK_eq (g n : Nat) : ∀ (m : List (Nat × Chunk)) (k : List (Nat × Chunk) → Prop), dropK g n m k = k (dropR g n m)
  | [], k => rfl
  | (x, c) :: r, k => by
    unfold dropK dropR
    cases inR g n x with
    | true => exact dropK_eq g n r k
    | false => exact dropK_eq g n r _
theorem appK_eq (b : List (Nat × Chunk)) : ∀ (a : List (Nat × Chunk)) (k : List (Nat × Chunk) → Prop), appK b a k = k (a ++ b)
  | [], k => by unfold appK; rw [dropK_eq, dropR_none]; rfl
  | x :: r, k => by unfold appK; rw [appK_eq b r]; rfl
theorem forceL_eq : ∀ (l : List (Nat × SV)) (k : List (Nat × SV) → Prop), forceL l k = k l
  | [], k => rfl
  | (x, c) :: r, k => by unfold forceL; rw [forceL_eq r]
theorem forceS_eq (s : St) (k : St → Prop) : forceS s k = k s := by unfold forceS; rw [forceL_eq, dropK_eq, dropR_none]

theorem restT_lk {g : Nat} {m : List (Nat × Chunk)} : ∀ {n : Nat} {tm : List (Nat × SV)}, restT g m n = some tm →
    (∀ t, t < n → (lkO m (g + t) = none ∧ lk .any tm t = .any) ∨ ∃ v, lkO m (g + t) = some (.gh v) ∧ lk .any tm t = v) ∧ ∀ t, n ≤ t → lk .any tm t = .any
  | 0, tm, h => by
    cases h
    exact ⟨fun t ht => by omega, fun t _ => rfl⟩
  | n + 1, tm, h => by
    unfold restT at h
    split at h
    · rename_i tm0 h0
      obtain ⟨h1, h2⟩ := restT_lk h0
      split at h
      · rename_i v hv
        cases h
        refine ⟨fun t ht => ?_, fun t ht => ?_⟩
        · by_cases e : n = t
          · subst e; exact .inr ⟨v, hv, by rw [lk_cons, if_pos rfl]⟩
          · rw [lk_cons, if_neg e]; exact h1 t (by omega)
        · rw [lk_cons, if_neg (by omega)]; exact h2 t (by omega)
      · rename_i hv
        cases h
        refine ⟨fun t ht => ?_, fun t ht => h2 t (by omega)⟩
        by_cases e : n = t
        · subst e; exact .inl ⟨hv, h2 n (Nat.le_refl _)⟩
        · exact h1 t (by omega)
      · cases h
    · cases h

theorem lk_lkO {tm : List (Nat × SV)} {t : Nat} : lk .any tm t = (match lkO tm t with | some v => v | none => .any) := by
  induction tm with
  | nil => rfl
  | cons x r ih =>
    obtain ⟨k, v⟩ := x
    rw [lk_cons, lkO_cons, ih]
    by_cases e : k = t <;> simp [e]

section
variable {cx : Cx} {P : Program} [Laid P] {B : Nat} {M I0 : Nat → Prop} {G : Nat → Value} {w0 : World} {E : Env} {s : St} {a : Act} {w : World} {o : Oper} {Q : Exit → Act → World → Prop}

/-- The slots are kept while the call runs. -/
theorem Rel.suspend (h : Rel P cx.nt B M I0 G w0 E s a w) {g : Nat} (hn : noR g cx.nt s.mem = true) :
    ∃ (G' : Nat → Value) (E' : Env), (∀ k, ¬ (g ≤ k ∧ k < g + cx.nt) → G' k = G k) ∧ (∀ t, t < cx.nt → G' (g + t) = a.tmps.getD t undef) ∧
      (∀ x v, CV E (lkO s.mem) w x v → CV E' (lkO (ghostR g s.tm cx.nt ++ s.mem)) w x v) ∧ Rel P 0 B M I0 G' w0 E' ⟨[], ghostR g s.tm cx.nt ++ s.mem⟩ ⟨#[], []⟩ w := by
  let G' : Nat → Value := fun k => if g ≤ k ∧ k < g + cx.nt then a.tmps.getD (k - g) undef else G k
  let E' : Env := { E with gv := G' }
  have hlk : ∀ k, ¬ (g ≤ k ∧ k < g + cx.nt) → lkO (ghostR g s.tm cx.nt ++ s.mem) k = lkO s.mem k := fun k hk => by
    rw [lkO_append, ghostR_lk, if_neg hk]
  have hin : ∀ k ch, lkO s.mem k = some ch → ¬ (g ≤ k ∧ k < g + cx.nt) := fun k ch hk hr => by
    rw [noR_lk hn k hr] at hk; cases hk
  have hm : ∀ x v, CV E (lkO s.mem) w x v → CV E' (lkO (ghostR g s.tm cx.nt ++ s.mem)) w x v := fun x v hx => by
    refine CV.mono (E := E) (m := lkO s.mem) (w := w) (fun _ h => h) (fun _ _ => rfl) (fun c t cs b h1 h2 => ?_) (hq_of fun c b h1 h2 => ?_) (fun c v h1 => ?_) hx
    · exact ⟨⟨t, cs, by rw [hlk c (hin c _ h1)]; exact h1⟩, h2⟩
    · have : ¬ (g ≤ c ∧ c < g + cx.nt) := by
        cases hc : lkO s.mem c with
        | none => exact (isPt_none h1 hc).elim
        | some ch => exact hin c ch hc
      exact ⟨hlk c this, h2⟩
    · have : ¬ (g ≤ c ∧ c < g + cx.nt) := by
        cases hc : lkO s.mem c with
        | none => rw [hc] at h1; simp [verOf] at h1
        | some ch => exact hin c ch hc
      exact ⟨v, by rw [hlk c this]; exact h1, Nat.le_refl _, fun _ => ⟨rfl, fun b hb => hb⟩⟩
  refine ⟨G', E', fun k hk => if_neg hk, fun t ht => ?_, hm, ⟨rfl, rfl, h.fr, h.base, h.i0, h.inew, fun c b hc => ?_, h.inj, fun t => ?_, fun c => ?_, h.ld, rfl⟩⟩
  · show (if g ≤ g + t ∧ g + t < g + cx.nt then _ else _) = _
    rw [if_pos (by omega)]
    have : g + t - g = t := by omega
    rw [this]
  · obtain ⟨q1, q2, q3⟩ := h.loc c b hc
    refine ⟨q1, q2, q3.imp id fun q0 => q0.imp id fun q => ⟨q.1, ?_⟩⟩
    dsimp only
    by_cases hr : g ≤ c ∧ c < g + cx.nt
    · rw [lkO_append, ghostR_lk, if_pos hr, noR_lk hn c hr]
      cases lkO s.tm (c - g) <;> rfl
    · rw [hlk c hr]; exact q.2
  · exact .conc _ _ (.any _)
  · dsimp only
    by_cases hr : g ≤ c ∧ c < g + cx.nt
    · rw [lkO_append, ghostR_lk, if_pos hr, noR_lk hn c hr]
      cases ht : lkO s.tm (c - g) with
      | none => trivial
      | some v =>
        have ht' := h.tm (c - g)
        rw [lk_lkO, ht] at ht'
        show CV E' _ w (if g ≤ c ∧ c < g + cx.nt then _ else _) v
        rw [if_pos hr]
        exact hm _ _ ht'
    · rw [hlk c hr]
      refine ChR.mono (E := E) (m := lkO s.mem) (w := w) (fun _ h => h) (fun _ _ => rfl) hm rfl rfl (fun _ _ => rfl) (h.ch c) ?_
      show (if g ≤ c ∧ c < g + cx.nt then _ else _) = _
      rw [if_neg hr, h.gv]

/-- They are there behind it. -/
theorem Rel.resume {nt : Nat} {G' : Nat → Value} {E' : Env} {m' : List (Nat × Chunk)} {w' : World} {g : Nat} (hts : a.tmps.size = nt) (hdf : a.defers = []) (h : Rel P 0 B M I0 G' w0 E' ⟨[], m'⟩ ⟨#[], []⟩ w') (h1 : ∀ k, ¬ (g ≤ k ∧ k < g + nt) → G' k = G k) (h2 : ∀ t, t < nt → G' (g + t) = a.tmps.getD t undef)
    {tm : List (Nat × SV)} (hr : restT g m' nt = some tm) {x : Value} {r : SV} (hx : CV E' (lkO m') w' x r) {d : Option Nat} (hd : ∀ k, d = some k → k < nt) :
    ∃ E'', Rel P nt B M I0 G w0 E'' ⟨putT d r tm, dropR g nt m'⟩ (a.put d x) w' := by
  obtain ⟨r1, r2⟩ := restT_lk hr
  let E'' : Env := { E' with gv := G }
  have hlk : ∀ k ch, lkO m' k = some ch → (∀ v, ch ≠ .gh v) → ¬ (g ≤ k ∧ k < g + nt) := fun k ch hk hg hR => by
    have e : g + (k - g) = k := by omega
    rcases r1 (k - g) (by omega) with ⟨q, _⟩ | ⟨v, q, _⟩
    · rw [e, hk] at q; cases q
    · rw [e, hk] at q; cases q; exact hg v rfl
  have hm : ∀ x v, CV E' (lkO m') w' x v → CV E'' (lkO (dropR g nt m')) w' x v := fun x v hx => by
    refine CV.mono (E := E') (m := lkO m') (w := w') (fun _ h => h) (fun _ _ => rfl) (fun c t cs b e1 e2 => ?_) (hq_of fun c b e1 e2 => ?_) (fun c v e1 => ?_) hx
    · exact ⟨⟨t, cs, by rw [dropR_lk, if_neg (hlk c _ e1 (fun v h => by cases h))]; exact e1⟩, e2⟩
    · have : ¬ (g ≤ c ∧ c < g + nt) := by
        cases hc : lkO m' c with
        | none => exact (isPt_none e1 hc).elim
        | some ch => exact hlk c ch hc (fun v h => by subst h; exact isPt_gh e1 hc)
      exact ⟨by rw [dropR_lk, if_neg this], e2⟩
    · have : ¬ (g ≤ c ∧ c < g + nt) := by
        cases hc : lkO m' c with
        | none => rw [hc] at e1; simp [verOf] at e1
        | some ch => exact hlk c ch hc (fun v h => by subst h; rw [hc] at e1; simp [verOf] at e1)
      exact ⟨v, by rw [dropR_lk, if_neg this]; exact e1, Nat.le_refl _, fun _ => ⟨rfl, fun b hb => hb⟩⟩
  have htm : ∀ t, CV E'' (lkO (dropR g nt m')) w' (a.tmps.getD t undef) (lk .any tm t) := fun t => by
    by_cases ht : t < nt
    · rcases r1 t ht with ⟨_, q⟩ | ⟨v, q1, q2⟩
      · rw [q]; exact .conc _ _ (.any _)
      · rw [q2, ← h2 t ht]
        have := h.ch (g + t)
        dsimp only at this
        rw [q1] at this
        have this : CV E' (lkO m') w' (E'.gv (g + t)) v := this
        rw [h.gv] at this
        exact hm _ _ this
    · rw [r2 t (by omega)]; exact .conc _ _ (.any _)
  refine ⟨E'', by rw [put_defers']; exact hdf, by rw [put_size]; exact hts, h.fr, h.base, h.i0, h.inew, fun c b hc => ?_, h.inj, fun t => ?_, fun c => ?_, h.ld, rfl⟩
  · obtain ⟨q1, q2, q3⟩ := h.loc c b hc
    refine ⟨q1, q2, q3.imp id fun q0 => q0.imp id fun q => ⟨q.1, ?_⟩⟩
    dsimp only
    rw [dropR_lk]
    split
    · rfl
    · exact q.2
  · cases d with
    | none => exact htm t
    | some k =>
      have hk : k < a.tmps.size := by rw [hts]; exact hd k rfl
      rw [put_getD hk]
      show CV E'' _ w' _ (lk .any ((k, r) :: tm) t)
      rw [lk_cons]
      by_cases e : k = t
      · rw [if_pos e, if_pos e]; exact hm _ _ hx
      · rw [if_neg e, if_neg e]; exact htm t
  · dsimp only
    rw [dropR_lk]
    split
    · trivial
    · rename_i hR
      refine ChR.mono (E := E') (m := lkO m') (w := w') (fun _ h => h) (fun _ _ => rfl) hm rfl rfl (fun _ _ => rfl) (h.ch c) ?_
      show G c = E'.gv c
      rw [h.gv, h1 c hR]

theorem inlOf_some {gg : Operand → SV} {T : Tr} {as : List SV} (h : inlOf cx gg o = some (T, as)) : (∃ c f fn caps, o.op = .call c ∧ c.callee = .value f ∧ gg f = .fn fn caps ∧ lkO cx.inl fn = some T ∧ as = (c.args.toList.map gg) ++ caps) ∨
    ∃ it c, o.op = .next it false ∧ gg it = .itp c ∧ T = nextT ∧ as = [.itp c] := by
  unfold inlOf at h
  split at h
  · rename_i c ho
    split at h
    · rename_i f hf
      split at h
      · rename_i fn caps hg
        split at h
        · rename_i T' hT
          simp only [Option.some.injEq, Prod.mk.injEq] at h
          obtain ⟨rfl, rfl⟩ := h
          exact .inl ⟨c, f, fn, caps, ho, hf, hg, hT, rfl⟩
        · cases h
      · cases h
    · cases h
  · rename_i it ho
    split at h
    · rename_i c hc
      simp only [Option.some.injEq, Prod.mk.injEq] at h
      obtain ⟨rfl, rfl⟩ := h
      exact .inr ⟨it, c, ho, hc, rfl, rfl⟩
    · cases h
  · cases h

theorem inl_wp2 (hP : CxOk P cx) (h : Rel P cx.nt B M I0 G w0 E s a w) {T : Tr} {as : List SV} (hi : inlOf cx (ev s.tm) o = some (T, as)) (hd : dOk cx o.dst = true) {g : Nat} {R : St → Prop} {K : Act → World → Prop}
    (hw : inlAt cx.nt s o.dst T as g R) (hK : ∀ E' s' x w', Rel P cx.nt B M I0 G w0 E' s' (a.put o.dst x) w' → R s' → K (a.put o.dst x) w') : Oper.wp P o a w K Q := by
  rcases inlOf_some hi with ⟨c, f, fn, caps, ho, hc, hv, hT, rfl⟩ | ⟨it, c, ho, hv, rfl, rfl⟩
  rotate_left
  · unfold inlAt at hw
    rw [forceD_eq] at hw
    split at hw
    · rename_i hn
      rw [appK_eq] at hw
      obtain ⟨G', E', g1, g2, hm, hs⟩ := h.suspend hn
      have hf := hm _ _ (h.eval it)
      rw [hv] at hf
      obtain ⟨b, e1, e2, e3⟩ := hf.inv_itp
      obtain ⟨x, w', r, m', n1, n2, n3, n4⟩ := next_run (s := ⟨[], ghostR g s.tm cx.nt ++ s.mem⟩) hs e3 e2 hw o.type
      have hrun : (execOp a.eval o).run P w = .ok (.value x) w' := by
        simp [execOp, ho, e1, n1, Result.andThen]
      unfold Oper.wp
      rw [hrun]
      unfold behind at n4
      rw [forceM_eq] at n4
      split at n4
      · rename_i tm hr
        rw [dropK_eq] at n4
        obtain ⟨E3, hrel⟩ := Rel.resume (G := G) (a := a) (d := o.dst) h.tsize h.defers n2 g1 g2 hr n3 (dOk_lt hd)
        exact hK E3 _ _ _ hrel n4
      · exact n4.elim
    · exact hw.elim
  unfold inlAt at hw
  rw [forceD_eq] at hw
  split at hw
  · rename_i hn
    rw [appK_eq] at hw
    obtain ⟨G', E', g1, g2, hm, hs⟩ := h.suspend hn
    obtain ⟨fnd, hf1, hf2, hf3⟩ := hP.ib fn T hT
    have hf := h.eval f
    rw [hv] at hf
    obtain ⟨xs, e1, e2, e3⟩ := hf.inv_fn
    have hval : ∀ i, CV E (lkO s.mem) w (((c.args.toList.map a.eval) ++ xs.toList).getD i undef) (((c.args.toList.map (ev s.tm)) ++ caps).getD i .any) :=
      append_cv (by simp) (argsEval _ _ _ h.eval) (fun i => by simpa [List.getD_eq_getElem?_getD, Array.getD_eq_getD_getElem?] using e3 i)
    have hcall := hP.inl fn T hT (g + 1000) B M I0 G' w0 E' _ w _ ((c.args.map a.eval) ++ xs) _ hs (by simp; omega) (fun i => by
      have := hm _ _ (hval i)
      have e4 : ((c.args.map a.eval) ++ xs).getD i undef = ((c.args.toList.map a.eval) ++ xs.toList).getD i undef := by
        rw [Array.getD_eq_getD_getElem?, List.getD_eq_getElem?_getD, ← Array.getElem?_toList, Array.toList_append, Array.toList_map]
      rw [e4]; exact this) hw
    have hrun : (execOp a.eval o).run P w = .ok (.enter fn ((c.args.map a.eval) ++ xs)) w := by
      simp only [execOp, ho, _root_.Go.resolve, hc, Sem.run_bind, e1, Deferred.ofValue, Sem.run_pure, Result.andThen_ok, invoke, callFunc, run_program, hf1, hf3, hf2, Bool.false_eq_true, if_false, Array.empty_append]
    unfold Oper.wp
    rw [hrun]
    refine hcall.mono ?_
    rintro ed w' ⟨x, r, m', E2, rfl, q1, q2, q3⟩
    unfold behind at q3
    rw [forceM_eq] at q3
    split at q3
    · rename_i tm hr
      rw [dropK_eq] at q3
      obtain ⟨E3, hrel⟩ := Rel.resume (G := G) (a := a) (d := o.dst) h.tsize h.defers q1 g1 g2 hr q2 (dOk_lt hd)
      exact hK E3 _ _ _ hrel q3
    · exact q3.elim
  · exact hw.elim

theorem inl_wp (hP : CxOk P cx) (h : Rel P cx.nt B M I0 G w0 E s a w) {T : Tr} {as : List SV} (hi : inlOf cx (ev s.tm) o = some (T, as)) (hd : dOk cx o.dst = true) {g : Nat} {R : St → Prop} {K : Act → World → Prop}
    (hw : inlAt cx.nt s o.dst T as g R) (hK : ∀ E' s' a' w', Rel P cx.nt B M I0 G w0 E' s' a' w' → R s' → K a' w') : Oper.wp P o a w K Q :=
  inl_wp2 hP h hi hd hw (fun E' s' x w' h' hr => hK E' s' _ w' h' hr)

theorem inlD_some {gg : Operand → SV} {x : Tr × List SV} (h : inlD cx gg o = some x) : inlOf cx gg o = some x := by
  unfold inlD at h
  repeat' split at h
  all_goals first | exact h | (cases h; done)

theorem inlOf_congr {g g' : Operand → SV} (h : ∀ x, x ∈ o.op.operands → g x = g' x) : inlOf cx g o = inlOf cx g' o := by
  unfold inlOf
  split
  · rename_i c ho
    rw [ho] at h
    split
    · rename_i f hf
      have e1 : g f = g' f := h f (by simp [Op.operands, Call.operands, hf])
      have e2 : c.args.toList.map g = c.args.toList.map g' := List.map_congr_left fun x hx => h x (by simp only [Op.operands, Call.operands]; simp; exact .inr (by simpa using hx))
      rw [e1, e2]
    · rfl
  · rename_i it ho
    rw [ho] at h
    have e1 : g it = g' it := h it (by simp [Op.operands])
    rw [e1]
  · rfl

/-! ### What a call leaves as it is -/
/-- The blocks that may be written. -/
def wrOf (E : Env) (m : List (Nat × Chunk)) : Nat → Prop := fun b => ∃ c, E.loc c = some b ∧ ¬ (roK c = true ∧ verOf (lkO m c) = none)
theorem Rel.wrM {nt : Nat} (h : Rel P nt B M I0 G w0 E s a w) {b : Nat} (hb : wrOf E s.mem b) : B ≤ b ∨ M b := by
  obtain ⟨c, hc, hr⟩ := hb
  rcases (h.loc c b hc).2.2 with q | q | q
  · exact .inl q
  · exact .inr q
  · exact (hr q).elim
theorem Rel.frOf {nt : Nat} (h : Rel P nt B M I0 G w0 E s a w) {w' : World} (hf : Fr w.heap.size (wrOf E s.mem) w w') : Fr B M w w' :=
  ⟨hf.os, hf.tape, hf.output, hf.size, fun k hk hM => hf.block k (Nat.lt_of_lt_of_le hk h.base) (fun q => by
    rcases h.wrM q with q | q
    · omega
    · exact hM q)⟩
theorem Rel.narrow {nt : Nat} (h : Rel P nt B M I0 G w0 E s a w) : Rel P nt w.heap.size (wrOf E s.mem) E.I G w E s a w := by
  refine ⟨h.defers, h.tsize, Fr.refl _ _ _, Nat.le_refl _, fun _ h => h, fun b hb => ⟨(h.inew b hb).1, .inl hb⟩, fun c b hc => ?_, h.inj, h.tm, h.ch, fun w' hf => h.ld w' (h.fr.trans (h.frOf hf)), h.gv⟩
  obtain ⟨q1, q2, q3⟩ := h.loc c b hc
  refine ⟨q1, q2, .inr ?_⟩
  by_cases hr : roK c = true ∧ verOf (lkO s.mem c) = none
  · exact .inr hr
  · exact .inl ⟨c, hc, hr⟩
theorem Rel.widen {nt nt' : Nat} {E' : Env} {s' : St} {a' : Act} {w' : World} (h : Rel P nt B M I0 G w0 E s a w) (h' : Rel P nt' w.heap.size (wrOf E s.mem) E.I G w E' s' a' w') :
    Rel P nt' B M I0 G w0 E' s' a' w' ∧ ∀ b, E.I b → E'.I b ∧ w'.heap[b]? = w.heap[b]? := by
  refine ⟨⟨h'.defers, h'.tsize, h.fr.trans (h.frOf h'.fr), Nat.le_trans h.base h'.fr.size, fun b hb => h'.i0 b (h.i0 b hb), fun b hb => ⟨(h'.inew b hb).1, ?_⟩, fun c b hc => ?_, h'.inj, h'.tm, h'.ch, h.ld, h'.gv⟩,
    fun b hb => ⟨h'.i0 b hb, h'.fr.block b (h.inew b hb).1 (fun ⟨c, hc, _⟩ => (h.loc c b hc).2.1 hb)⟩⟩
  · rcases (h'.inew b hb).2 with q | q | q
    · exact (h.inew b q).2
    · exact .inr (.inl (Nat.le_trans h.base q))
    · exact .inr (h.wrM q)
  · obtain ⟨q1, q2, q3⟩ := h'.loc c b hc
    refine ⟨q1, q2, ?_⟩
    rcases q3 with q | q | q
    · exact .inl (Nat.le_trans h.base q)
    · rcases h.wrM q with q | q
      · exact .inl q
      · exact .inr (.inl q)
    · exact .inr (.inr q)
/-- Less is told of the slots. -/
theorem Rel.less {nt : Nat} (h : Rel P nt B M I0 G w0 E s a w) {s' : St} (ht : ∀ t, lk .any s'.tm t = .any ∨ lk .any s'.tm t = lk .any s.tm t) (hm : ∀ c, lkO s'.mem c = lkO s.mem c) : Rel P nt B M I0 G w0 E s' a w := by
  have e : lkO s'.mem = lkO s.mem := funext hm
  refine ⟨h.defers, h.tsize, h.fr, h.base, h.i0, h.inew, by rw [e]; exact h.loc, h.inj, fun t => ?_, fun c => ?_, h.ld, h.gv⟩
  · rcases ht t with q | q
    · rw [q]; exact .conc _ _ (.any _)
    · rw [e, q]; exact h.tm t
  · rw [e]; exact h.ch c

/-- The operations, in the order of the text; calls gone through in place. -/
theorem opsI_run (hP : CxOk P cx) {ops : Array Oper} {id : Nat} {K : St → Prop} (hR : ∀ E s a w, Rel P cx.nt B M I0 G w0 E s a w → K s → Q .normal a w) :
    ∀ (l : List Oper) (i : Nat) (E : Env) (s : St) (a : Act) (w : World), (∀ j, l[j]? = ops[i + j]?) → Rel P cx.nt B M I0 G w0 E s a w → wpRI cx id ops.toList K l i s → wpOps P ops Q (List.range' i l.length) a w
  | [], i, E, s, a, w, _, h, hr => by
    simp only [List.length_nil, List.range'_zero, wpOps]
    exact hR E s a w h hr
  | o :: r, i, E, s, a, w, hl, h, hr => by
    have hi : ops[i]? = some o := by simpa using (hl 0).symm
    have hl' : ∀ j, r[j]? = ops[i + 1 + j]? := fun j => by have := hl (j + 1); simpa [Nat.add_assoc, Nat.add_comm 1 j] using this
    simp only [List.length_cons, List.range'_succ, wpOps_cons]
    unfold wpRI at hr
    split at hr
    · rename_i T as hin
      split at hr
      · rename_i hd hw
        unfold wpOp
        simp only [hi]
        rw [if_pos (wantB_run h hw)]
        exact .inl (inl_wp hP h hin hd hr (fun E' s' a' w' h' hk => opsI_run hP hR r (i + 1) E' s' a' w' hl' h' hk))
      · rename_i hd hw
        refine op_step hP h hi hd (e := ⟨none, .und, [], []⟩) (.inr ⟨hw, rfl, rfl, rfl⟩) (fun E' a' w' h' => ?_)
        exact opsI_run hP hR r (i + 1) E' _ a' w' hl' h' hr
      · exact hr.elim
    · obtain ⟨es, hp, hk⟩ := wpR_path _ _ _ _ _ _ hr
      obtain ⟨e, es', rfl, hd, hs, hp'⟩ := hp
      have : es' = [] := hp'
      subst this
      refine op_step hP h hi hd hs (fun E' a' w' h' => ?_)
      exact opsI_run hP hR r (i + 1) E' _ a' w' hl' h' hk

theorem regionI_run (hP : CxOk P cx) {ops : Array Oper} {id : Nat} {K : St → Prop} (hR : ∀ E s a w, Rel P cx.nt B M I0 G w0 E s a w → K s → Q .normal a w) (h : Rel P cx.nt B M I0 G w0 E s a w) (hr : wpRI cx id ops.toList K ops.toList 0 s) :
    (Code.region id ops false).wp P Q a w := by
  refine wp_region ?_
  rw [List.range_eq_range', ← Array.length_toList]
  exact opsI_run hP hR ops.toList 0 E s a w (by simp) h hr

theorem sel_none : ∀ (l : List Oper) (es : List Eff) (i : Nat) (s : St), selS (fun _ => false) l es i s = s
  | [], es, i, s => by cases es <;> rfl
  | o :: r, [], i, s => rfl
  | o :: r, e :: es, i, s => by simp only [selS]; exact sel_none r es (i + 1) s

/-- May a segment's operations be carried out in whatever order they may? -/
theorem seg_run (hP : CxOk P cx) {ops : Array Oper} {lo hi : Nat} {l : List Oper} {es : List Eff} {s0 : St} (hlo : lo ≤ hi) (hhi : hi ≤ ops.size) (hll : l.length = hi - lo) (hl : ∀ k, k < hi - lo → l[k]? = ops.toList[lo + k]?)
    (hp : Path cx ops.toList l s0 es) (hedge : ∀ i o, ops.toList[i]? = some o → edgesOk o i = true)
    (hpair : ∀ i j oi oj ei ej, i < j → l[i]? = some oi → l[j]? = some oj → es[i]? = some ei → es[j]? = some ej → ((befN ops.toList []).getD (lo + j) 0).testBit (lo + i) = true ∨ apartE ops.toList oi oj ei ej = true)
    (hbar : ∀ j, hi ≤ j → j < ops.size → (j = hi ∧ ∀ i, lo ≤ i → i < hi → ((befN ops.toList []).getD hi 0).testBit i = true) ∨ (hi < j ∧ ((befN ops.toList []).getD j 0).testBit hi = true))
    (hend : ∀ (fuel : Nat) (listed : Array Bool) (E : Env) (a : Act) (w : World), listed.size = ops.size → toCome ops.size listed = fuel → Closed ops.toList (fun i => listed.getD i false) → (∀ i, i < hi → listed.getD i false = true) → (∀ i, hi ≤ i → listed.getD i false = false) →
      Rel P cx.nt B M I0 G w0 E (endS l es s0) a w → wpAny P .any ops Q fuel listed a w) :
    ∀ (fuel : Nat) (listed : Array Bool) (E : Env) (a : Act) (w : World), listed.size = ops.size → toCome ops.size listed = fuel → Closed ops.toList (fun i => listed.getD i false) → (∀ i, i < lo → listed.getD i false = true) → (∀ i, hi ≤ i → listed.getD i false = false) →
      Rel P cx.nt B M I0 G w0 E (selS (fun i => listed.getD i false) l es lo s0) a w → wpAny P .any ops Q fuel listed a w := by
  have hlen := path_length ops.toList l s0 es hp
  intro fuel
  have last : ∀ (listed : Array Bool), listed.size = ops.size → Region.ready .any ops listed = [] → ∀ i, i < ops.size → listed.getD i false = true := by
    intro listed hsz hnone i
    induction i using Nat.strongRecOn with
    | _ i ih =>
      intro hi
      cases hl : listed.getD i false with
      | true => rfl
      | false =>
        exfalso
        have : i ∈ Region.ready .any ops listed := by
          rw [mem_ready]
          have hoi : ops[i]? = some ops[i] := Array.getElem?_eq_getElem hi
          refine ⟨?_, ops[i], hoi, fun e he hb => ?_⟩
          · rw [Array.getD_eq_getD_getElem?, Array.getElem?_eq_getElem (by omega)] at hl ⊢
            simpa using hl
          · have hed := hedge i ops[i] (by simp)
            unfold edgesOk at hed
            rw [List.all_eq_true] at hed
            have := hed e (by simpa using he)
            rw [hb] at this
            have hlt : e.on < i := by simpa [Nat.blt_eq] using this
            exact ih e.on hlt (by omega)
        rw [hnone] at this
        cases this
  induction fuel with
  | zero =>
    intro listed E a w hsz hc hcl hA hB h
    have hall := toCome_zero hsz hc
    refine hend 0 listed E a w hsz hc hcl (fun i hi => hall i (by omega)) hB (h.congr (s' := endS l es s0) (fun t => ?_) (fun c => ?_))
    · rw [← sel_all l es lo s0]
      refine (sel_tm _ _ _ _ _ rfl (fun j o' hj _ => ?_))
      rw [hall (lo + j) (by have := (List.getElem?_eq_some_iff.1 hj).1; omega)]
    · rw [← sel_all l es lo s0]
      refine (sel_mem _ _ _ _ _ rfl (fun j e' hj _ => ?_))
      rw [hall (lo + j) (by have := (List.getElem?_eq_some_iff.1 hj).1; omega)]
  | succ fuel ih =>
    intro listed E a w hsz hc hcl hA hB h
    by_cases hall : ∀ i, i < hi → listed.getD i false = true
    · refine hend (fuel + 1) listed E a w hsz hc hcl hall hB (h.congr (s' := endS l es s0) (fun t => ?_) (fun c => ?_))
      · rw [← sel_all l es lo s0]
        refine (sel_tm _ _ _ _ _ rfl (fun j o' hj _ => ?_))
        rw [hall (lo + j) (by have := (List.getElem?_eq_some_iff.1 hj).1; omega)]
      · rw [← sel_all l es lo s0]
        refine (sel_mem _ _ _ _ _ rfl (fun j e' hj _ => ?_))
        rw [hall (lo + j) (by have := (List.getElem?_eq_some_iff.1 hj).1; omega)]
    refine ⟨fun hnone => absurd (fun i hi => last listed hsz hnone i (by omega)) hall, fun j hj => ?_⟩
    obtain ⟨hju, oj, hoj, hdep⟩ := mem_ready.1 hj
    have hjlt : j < ops.size := (Array.getElem?_eq_some_iff.1 hoj).1
    have hoj'' : ops.toList[j]? = some oj := by simpa using hoj
    have hjf : listed.getD j false = false := by
      rw [Array.getD_eq_getD_getElem?, Array.getElem?_eq_getElem (by omega)] at hju ⊢
      simpa using hju
    have hready : Ready oj (fun i => listed.getD i false) := fun e he hb => hdep e (by simpa using he) hb
    have hbef0 := fun i hi => befN_bit hcl hedge ops.toList 0 [] (by simp) rfl (fun j o h => by omega) j oj hoj'' hready i hi
    have hjlo : lo ≤ j := by
      rcases Nat.lt_or_ge j lo with h1 | h1
      · rw [hA j h1] at hjf; cases hjf
      · exact h1
    have hjhi : j < hi := by
      rcases Nat.lt_or_ge j hi with h1 | h1
      · exact h1
      · exfalso
        rcases hbar j h1 hjlt with ⟨rfl, h2⟩ | ⟨h2, h3⟩
        · refine hall (fun i hi => ?_)
          rcases Nat.lt_or_ge i lo with h3 | h3
          · exact hA i h3
          · exact hbef0 i (h2 i h3 hi)
        · have := hbef0 hi h3
          rw [hB hi (Nat.le_refl _)] at this
          cases this
    obtain ⟨jj, rfl⟩ : ∃ jj, j = lo + jj := ⟨j - lo, by omega⟩
    have hoj' : l[jj]? = some oj := by rw [hl jj (by omega)]; exact hoj''
    have hej : ∃ ej, es[jj]? = some ej := ⟨_, List.getElem?_eq_getElem (by rw [hlen, hll]; omega)⟩
    obtain ⟨ej, hej⟩ := hej
    have lget : ∀ k ok, l[k]? = some ok → ops.toList[lo + k]? = some ok := fun k ok hk => by
      have : k < hi - lo := by have := (List.getElem?_eq_some_iff.1 hk).1; omega
      rw [← hl k this]; exact hk
    -- what is done and what is behind
    have F3 : ∀ i oi ei, i < jj → l[i]? = some oi → es[i]? = some ei → listed.getD (lo + i) false = false → apartE ops.toList oi oj ei ej = true := by
      intro i oi ei hij hoi hei hli
      rcases hpair i jj oi oj ei ej hij hoi hoj' hei hej with h1 | h1
      · have := hbef0 (lo + i) h1
        simp only [hli] at this
        cases this
      · exact h1
    have F2 : ∀ i oi ei, jj < i → l[i]? = some oi → es[i]? = some ei → listed.getD (lo + i) false = true → apartE ops.toList oj oi ej ei = true := by
      intro i oi ei hij hoi hei hli
      rcases hpair jj i oj oi ej ei hij hoj' hoi hej hei with h1 | h1
      · have hri : Ready oi (fun i => listed.getD i false) := fun e he hb => hcl (lo + i) oi (lget i oi hoi) hli e he hb
        have := befN_bit hcl hedge ops.toList 0 [] (by simp) rfl (fun j o h => by omega) (lo + i) oi (lget i oi hoi) hri (lo + jj) h1
        simp only [hjf] at this
        cases this
      · exact h1
    have hget := path_get ops.toList l s0 es lo hp jj oj ej hoj' hej
    obtain ⟨hd, hstep⟩ := hget
    have exE : ∀ k ok, l[k]? = some ok → ∃ ek, es[k]? = some ek := fun k ok hk => ⟨_, List.getElem?_eq_getElem (by rw [hlen]; exact (List.getElem?_eq_some_iff.1 hk).1)⟩
    have exO : ∀ k ek, es[k]? = some ek → ∃ ok, l[k]? = some ok := fun k ek hk => ⟨_, List.getElem?_eq_getElem (by rw [← hlen]; exact (List.getElem?_eq_some_iff.1 hk).1)⟩
    have unA : ∀ {x y : Oper} {ex ey : Eff}, apartE ops.toList x y ex ey = true → disj x.dst.toList (y.dst.toList ++ looks ops.toList y) = true ∧ disj y.dst.toList (looks ops.toList x) = true ∧ disj (ex.ch.map (·.1)) (ey.ch.map (·.1) ++ ey.rd) = true ∧ disj (ey.ch.map (·.1)) ex.rd = true := by
      intro x y ex ey hh
      unfold apartE at hh
      simp only [Bool.and_eq_true] at hh
      exact ⟨hh.1.1.1, hh.1.1.2, hh.1.2, hh.2⟩
    have hstep' : Step cx ops.toList (selS (fun i => listed.getD i false) l es lo s0) oj ej := by
      refine hstep.move (fun t ht => ?_) (fun c hc => ?_)
      · refine sel_tm _ _ _ _ _ rfl (fun k ok hk hdk => ?_)
        obtain ⟨ek, hek⟩ := exE k ok hk
        rcases Nat.lt_trichotomy k jj with hkj | hkj | hkj
        · rw [decide_eq_true (by omega)]
          cases hlk : listed.getD (lo + k) false with
          | true => rfl
          | false =>
            have := (unA (F3 k ok ek hkj hk hek hlk)).1
            exact (disj_not this (x := t) (by rw [hdk]; simp) (List.mem_append.2 (.inr ht))).elim
        · subst hkj
          rw [decide_eq_false (by omega)]
          exact hjf
        · rw [decide_eq_false (by omega)]
          cases hlk : listed.getD (lo + k) false with
          | false => rfl
          | true =>
            have := (unA (F2 k ok ek hkj hk hek hlk)).2.1
            exact (disj_not this (x := t) (by rw [hdk]; simp) ht).elim
      · refine sel_mem _ _ _ _ _ rfl (fun k ek hek hck => ?_)
        obtain ⟨ok, hk⟩ := exO k ek hek
        rcases Nat.lt_trichotomy k jj with hkj | hkj | hkj
        · rw [decide_eq_true (by omega)]
          cases hlk : listed.getD (lo + k) false with
          | true => rfl
          | false =>
            have := (unA (F3 k ok ek hkj hk hek hlk)).2.2.1
            exact (disj_not this (x := c) (keys_of hck) (List.mem_append.2 (.inr hc))).elim
        · subst hkj
          rw [decide_eq_false (by omega)]
          exact hjf
        · rw [decide_eq_false (by omega)]
          cases hlk : listed.getD (lo + k) false with
          | false => rfl
          | true =>
            have := (unA (F2 k ok ek hkj hk hek hlk)).2.2.2
            exact (disj_not this (x := c) (keys_of hck) hc).elim
    refine op_step hP h hoj hd hstep' (fun E' a' w' h' => ?_)
    have hset : ∀ k, k ≠ lo + jj → (listed.setIfInBounds (lo + jj) true).getD k false = listed.getD k false := fun k hk => getD_set_ne false (Ne.symm hk)
    have hsetj : (listed.setIfInBounds (lo + jj) true).getD (lo + jj) false = true := by simp [Array.getD_eq_getD_getElem?, hsz, hjlt]
    refine ih (listed.setIfInBounds (lo + jj) true) E' a' w' (by simp [hsz]) (by have := toCome_set hsz hju; omega) (fun i oi hoi hi e he hb => ?_) (fun i hi => by rw [hset i (by omega)]; exact hA i hi) (fun i hi => by rw [hset i (by omega)]; exact hB i hi) (h'.congr (fun t => ?_) (fun c => ?_))
    · by_cases hij : i = lo + jj
      · subst hij
        rw [hoj''] at hoi
        cases hoi
        exact getD_set_true (hready e he hb)
      · simp only [hset i hij] at hi
        exact getD_set_true (hcl i oi hoi hi e he hb)
    · by_cases hdt : oj.dst = some t
      · rw [sel_tm_last l es lo s0 jj oj ej hoj' hej hdt hsetj (fun k ok hjk hk hdk => ?_)]
        · simp only [upd, hdt]; rw [lk_cons, if_pos rfl]
        · have hne : lo + k ≠ lo + jj := by omega
          simp only [hset (lo + k) hne]
          obtain ⟨ek, hek⟩ := exE k ok hk
          cases hlk : listed.getD (lo + k) false with
          | false => rfl
          | true =>
            have := (unA (F2 k ok ek hjk hk hek hlk)).1
            exact (disj_not this (x := t) (by rw [hdt]; simp) (List.mem_append.2 (.inl (by rw [hdk]; simp)))).elim
      · have e1 : lk .any (upd (selS (fun i => listed.getD i false) l es lo s0) oj.dst ej.v ej.ch).tm t = lk .any (selS (fun i => listed.getD i false) l es lo s0).tm t := by
          simp only [upd]
          cases hq : oj.dst with
          | none => rfl
          | some d => rw [lk_cons, if_neg (fun e => hdt (by rw [hq, e]))]
        rw [e1]
        refine sel_tm _ _ _ _ _ rfl (fun k ok hk hdk => ?_)
        have hne : lo + k ≠ lo + jj := fun e => by (obtain rfl : k = jj := by omega); rw [hoj'] at hk; cases hk; exact hdt hdk
        exact hset (lo + k) hne
    · cases hct : lkO ej.ch c with
      | some v =>
        rw [sel_mem_last l es lo s0 jj ej (by omega) hej hct hsetj (fun k ek hjk hek hck => ?_)]
        · simp only [upd]; rw [lkO_append, hct]
        · have hne : lo + k ≠ lo + jj := by omega
          simp only [hset (lo + k) hne]
          obtain ⟨ok, hk⟩ := exO k ek hek
          cases hlk : listed.getD (lo + k) false with
          | false => rfl
          | true =>
            have := (unA (F2 k ok ek hjk hk hek hlk)).2.2.1
            exact (disj_not this (x := c) (keys_of (by rw [hct]; simp)) (List.mem_append.2 (.inl (keys_of hck)))).elim
      | none =>
        have e1 : lkO (upd (selS (fun i => listed.getD i false) l es lo s0) oj.dst ej.v ej.ch).mem c = lkO (selS (fun i => listed.getD i false) l es lo s0).mem c := by
          simp only [upd]; rw [lkO_append, hct]
        rw [e1]
        refine sel_mem _ _ _ _ _ rfl (fun k ek hek hck => ?_)
        have hne : lo + k ≠ lo + jj := fun e => by (obtain rfl : k = jj := by omega); rw [hej] at hek; cases hek; exact hck hct
        exact hset (lo + k) hne

/-! ### Operations in whatever order, by their numbers -/
/-- Those of a row of numbers: in whatever order they may; others by the way. -/
theorem ix_run (hP : CxOk P cx) {ops : Array Oper} {ix : List Nat} {l : List Oper} {es : List Eff} {s0 : St} {D0 : Nat → Bool} (hl : ∀ p : Nat, l[p]? = (ix[p]?).bind fun i => ops.toList[i]?) (hll : l.length = ix.length) (hnd : ix.Nodup)
    (hp : Path cx ops.toList l s0 es) (hedge : ∀ i o, ops.toList[i]? = some o → edgesOk o i = true)
    (hpair : ∀ (p q i j : Nat) oi oj ei ej, p < q → ix[p]? = some i → ix[q]? = some j → l[p]? = some oi → l[q]? = some oj → es[p]? = some ei → es[q]? = some ej → ((befN ops.toList []).getD j 0).testBit i = true ∨ apartE ops.toList oi oj ei ej = true)
    (hout : ∀ (fuel : Nat) (listed : Array Bool) (E : Env) (a : Act) (w : World), listed.size = ops.size → toCome ops.size listed = fuel + 1 → Closed ops.toList (fun i => listed.getD i false) → (∀ i, i ∉ ix → listed.getD i false = D0 i) →
      Rel P cx.nt B M I0 G w0 E (selS (fun p => listed.getD (ix.getD p 0) false) l es 0 s0) a w → ∀ j, j ∈ Region.ready .any ops listed → j ∉ ix → wpOp P ops Q j (wpAny P .any ops Q fuel (listed.setIfInBounds j true)) a w)
    (hfin : ∀ (listed : Array Bool) (E : Env) (a : Act) (w : World), (∀ i, i < ops.size → listed.getD i false = true) → (∀ i, i ∉ ix → listed.getD i false = D0 i) →
      Rel P cx.nt B M I0 G w0 E (endS l es s0) a w → Q .normal a w) :
    ∀ (fuel : Nat) (listed : Array Bool) (E : Env) (a : Act) (w : World), listed.size = ops.size → toCome ops.size listed = fuel → Closed ops.toList (fun i => listed.getD i false) → (∀ i, i ∉ ix → listed.getD i false = D0 i) →
      Rel P cx.nt B M I0 G w0 E (selS (fun p => listed.getD (ix.getD p 0) false) l es 0 s0) a w → wpAny P .any ops Q fuel listed a w := by
  have hlen := path_length ops.toList l s0 es hp
  have ixlt : ∀ p i, ix[p]? = some i → i < ops.size ∧ p < ix.length := fun p i hi => by
    have hpl : p < ix.length := (List.getElem?_eq_some_iff.1 hi).1
    have h1 := hl p
    rw [hi, Option.bind_some, List.getElem?_eq_getElem (by omega)] at h1
    have := (List.getElem?_eq_some_iff.1 h1.symm).1
    exact ⟨by simpa using this, hpl⟩
  have ixD : ∀ p i, ix[p]? = some i → ix.getD p 0 = i := fun p i hi => by rw [List.getD_eq_getElem?_getD, hi]; rfl
  have inj : ∀ p q i, ix[p]? = some i → ix[q]? = some i → p = q := fun p q i h1 h2 => by
    have a1 := List.getElem?_eq_some_iff.1 h1
    have a2 := List.getElem?_eq_some_iff.1 h2
    obtain ⟨b1, c1⟩ := a1
    obtain ⟨b2, c2⟩ := a2
    have hne := List.pairwise_iff_getElem.1 hnd
    rcases Nat.lt_trichotomy p q with h | h | h
    · exact (hne p q b1 b2 h (c1.trans c2.symm)).elim
    · exact h
    · exact (hne q p b2 b1 h (c2.trans c1.symm)).elim
  have last : ∀ (listed : Array Bool), listed.size = ops.size → Region.ready .any ops listed = [] → ∀ i, i < ops.size → listed.getD i false = true := by
    intro listed hsz hnone i
    induction i using Nat.strongRecOn with
    | _ i ih =>
      intro hi
      cases hl : listed.getD i false with
      | true => rfl
      | false =>
        exfalso
        have : i ∈ Region.ready .any ops listed := by
          rw [mem_ready]
          have hoi : ops[i]? = some ops[i] := Array.getElem?_eq_getElem hi
          refine ⟨?_, ops[i], hoi, fun e he hb => ?_⟩
          · rw [Array.getD_eq_getD_getElem?, Array.getElem?_eq_getElem (by omega)] at hl ⊢
            simpa using hl
          · have hed := hedge i ops[i] (by simp)
            unfold edgesOk at hed
            rw [List.all_eq_true] at hed
            have := hed e (by simpa using he)
            rw [hb] at this
            have hlt : e.on < i := by simpa [Nat.blt_eq] using this
            exact ih e.on hlt (by omega)
        rw [hnone] at this
        cases this
  have fin : ∀ (listed : Array Bool) (E : Env) (a : Act) (w : World), (∀ i, i < ops.size → listed.getD i false = true) → (∀ i, i ∉ ix → listed.getD i false = D0 i) → Rel P cx.nt B M I0 G w0 E (selS (fun p => listed.getD (ix.getD p 0) false) l es 0 s0) a w → Q .normal a w := fun listed E a w hall hD h => by
    refine hfin listed E a w hall hD (h.congr (s' := endS l es s0) (fun t => ?_) (fun c => ?_))
    · rw [← sel_all l es 0 s0]
      refine (sel_tm _ _ _ _ _ rfl (fun j o' hj _ => ?_))
      rw [Nat.zero_add]
      have hjl : j < ix.length := by have := (List.getElem?_eq_some_iff.1 hj).1; omega
      have hj2 : ix[j]? = some ix[j] := List.getElem?_eq_getElem hjl
      rw [ixD j _ hj2, hall _ (ixlt j _ hj2).1]
    · rw [← sel_all l es 0 s0]
      refine (sel_mem _ _ _ _ _ rfl (fun j e' hj _ => ?_))
      rw [Nat.zero_add]
      have hjl : j < ix.length := by have := (List.getElem?_eq_some_iff.1 hj).1; omega
      have hj2 : ix[j]? = some ix[j] := List.getElem?_eq_getElem hjl
      rw [ixD j _ hj2, hall _ (ixlt j _ hj2).1]
  intro fuel
  induction fuel with
  | zero =>
    intro listed E a w hsz hc hcl hD h
    have hall := toCome_zero hsz hc
    refine ⟨?_, fin listed E a w hall hD h⟩
    cases hrd : Region.ready .any ops listed with
    | nil => rfl
    | cons x r =>
      have hx : x ∈ Region.ready .any ops listed := by rw [hrd]; exact List.mem_cons_self ..
      obtain ⟨h1, ox, hox, _⟩ := mem_ready.1 hx
      have hlt : x < ops.size := (Array.getElem?_eq_some_iff.1 hox).1
      have := hall x hlt
      rw [Array.getD_eq_getD_getElem?, Array.getElem?_eq_getElem (by omega)] at this h1
      simp at this h1
      rw [this] at h1
      cases h1
  | succ fuel ih =>
    intro listed E a w hsz hc hcl hD h
    refine ⟨fun hnone => fin listed E a w (last listed hsz hnone) hD h, fun j hj => ?_⟩
    by_cases hjx : j ∈ ix
    rotate_left
    · exact hout fuel listed E a w hsz hc hcl hD h j hj hjx
    obtain ⟨hju, oj, hoj, hdep⟩ := mem_ready.1 hj
    have hjlt : j < ops.size := (Array.getElem?_eq_some_iff.1 hoj).1
    have hoj'' : ops.toList[j]? = some oj := by simpa using hoj
    have hjf : listed.getD j false = false := by
      rw [Array.getD_eq_getD_getElem?, Array.getElem?_eq_getElem (by omega)] at hju ⊢
      simpa using hju
    have hready : Ready oj (fun i => listed.getD i false) := fun e he hb => hdep e (by simpa using he) hb
    have hbef0 := fun i hi => befN_bit hcl hedge ops.toList 0 [] (by simp) rfl (fun j o h => by omega) j oj hoj'' hready i hi
    obtain ⟨jj, hjj⟩ := List.mem_iff_getElem?.1 hjx
    have hjjl := (ixlt jj j hjj).2
    have hoj' : l[jj]? = some oj := by rw [hl jj, hjj, Option.bind_some]; exact hoj''
    have hej : ∃ ej, es[jj]? = some ej := ⟨_, List.getElem?_eq_getElem (by rw [hlen, hll]; exact hjjl)⟩
    obtain ⟨ej, hej⟩ := hej
    have getI : ∀ k ok, l[k]? = some ok → ∃ i, ix[k]? = some i ∧ ops.toList[i]? = some ok ∧ ix.getD k 0 = i := fun k ok hk => by
      have hkl : k < ix.length := by have := (List.getElem?_eq_some_iff.1 hk).1; omega
      have h1 : ix[k]? = some ix[k] := List.getElem?_eq_getElem hkl
      refine ⟨_, h1, ?_, ixD k _ h1⟩
      have := hl k
      rw [h1, Option.bind_some, hk] at this
      exact this.symm
    -- what is done and what is behind
    have F3 : ∀ p oi ei, p < jj → l[p]? = some oi → es[p]? = some ei → listed.getD (ix.getD p 0) false = false → apartE ops.toList oi oj ei ej = true := by
      intro p oi ei hij hoi hei hli
      obtain ⟨i, i1, i2, i3⟩ := getI p oi hoi
      rw [i3] at hli
      rcases hpair p jj i j oi oj ei ej hij i1 hjj hoi hoj' hei hej with h1 | h1
      · have := hbef0 i h1
        simp only [hli] at this
        cases this
      · exact h1
    have F2 : ∀ p oi ei, jj < p → l[p]? = some oi → es[p]? = some ei → listed.getD (ix.getD p 0) false = true → apartE ops.toList oj oi ej ei = true := by
      intro p oi ei hij hoi hei hli
      obtain ⟨i, i1, i2, i3⟩ := getI p oi hoi
      rw [i3] at hli
      rcases hpair jj p j i oj oi ej ei hij hjj i1 hoj' hoi hej hei with h1 | h1
      · have hri : Ready oi (fun i => listed.getD i false) := fun e he hb => hcl i oi i2 hli e he hb
        have := befN_bit hcl hedge ops.toList 0 [] (by simp) rfl (fun j o h => by omega) i oi i2 hri j h1
        simp only [hjf] at this
        cases this
      · exact h1
    have hget := path_get ops.toList l s0 es 0 hp jj oj ej hoj' hej
    rw [Nat.zero_add] at hget
    obtain ⟨hd, hstep⟩ := hget
    have exE : ∀ k ok, l[k]? = some ok → ∃ ek, es[k]? = some ek := fun k ok hk => ⟨_, List.getElem?_eq_getElem (by rw [hlen]; exact (List.getElem?_eq_some_iff.1 hk).1)⟩
    have exO : ∀ k ek, es[k]? = some ek → ∃ ok, l[k]? = some ok := fun k ek hk => ⟨_, List.getElem?_eq_getElem (by rw [← hlen]; exact (List.getElem?_eq_some_iff.1 hk).1)⟩
    have unA : ∀ {x y : Oper} {ex ey : Eff}, apartE ops.toList x y ex ey = true → disj x.dst.toList (y.dst.toList ++ looks ops.toList y) = true ∧ disj y.dst.toList (looks ops.toList x) = true ∧ disj (ex.ch.map (·.1)) (ey.ch.map (·.1) ++ ey.rd) = true ∧ disj (ey.ch.map (·.1)) ex.rd = true := by
      intro x y ex ey hh
      unfold apartE at hh
      simp only [Bool.and_eq_true] at hh
      exact ⟨hh.1.1.1, hh.1.1.2, hh.1.2, hh.2⟩
    have hjD : ix.getD jj 0 = j := ixD jj j hjj
    have hstep' : Step cx ops.toList (selS (fun p => listed.getD (ix.getD p 0) false) l es 0 s0) oj ej := by
      refine hstep.move (fun t ht => ?_) (fun c hc => ?_)
      · refine sel_tm _ _ _ _ _ rfl (fun k ok hk hdk => ?_)
        rw [Nat.zero_add]
        obtain ⟨ek, hek⟩ := exE k ok hk
        rcases Nat.lt_trichotomy k jj with hkj | hkj | hkj
        · rw [decide_eq_true hkj]
          cases hlk : listed.getD (ix.getD k 0) false with
          | true => rfl
          | false =>
            have := (unA (F3 k ok ek hkj hk hek hlk)).1
            exact (disj_not this (x := t) (by rw [hdk]; simp) (List.mem_append.2 (.inr ht))).elim
        · subst hkj
          rw [decide_eq_false (by omega), hjD]
          exact hjf
        · rw [decide_eq_false (by omega)]
          cases hlk : listed.getD (ix.getD k 0) false with
          | false => rfl
          | true =>
            have := (unA (F2 k ok ek hkj hk hek hlk)).2.1
            exact (disj_not this (x := t) (by rw [hdk]; simp) ht).elim
      · refine sel_mem _ _ _ _ _ rfl (fun k ek hek hck => ?_)
        rw [Nat.zero_add]
        obtain ⟨ok, hk⟩ := exO k ek hek
        rcases Nat.lt_trichotomy k jj with hkj | hkj | hkj
        · rw [decide_eq_true hkj]
          cases hlk : listed.getD (ix.getD k 0) false with
          | true => rfl
          | false =>
            have := (unA (F3 k ok ek hkj hk hek hlk)).2.2.1
            exact (disj_not this (x := c) (keys_of hck) (List.mem_append.2 (.inr hc))).elim
        · subst hkj
          rw [decide_eq_false (by omega), hjD]
          exact hjf
        · rw [decide_eq_false (by omega)]
          cases hlk : listed.getD (ix.getD k 0) false with
          | false => rfl
          | true =>
            have := (unA (F2 k ok ek hkj hk hek hlk)).2.2.2
            exact (disj_not this (x := c) (keys_of hck) hc).elim
    refine op_step hP h hoj hd hstep' (fun E' a' w' h' => ?_)
    have hset : ∀ k, k ≠ j → (listed.setIfInBounds j true).getD k false = listed.getD k false := fun k hk => getD_set_ne false (Ne.symm hk)
    have hsetj : (listed.setIfInBounds j true).getD j false = true := by simp [Array.getD_eq_getD_getElem?, hsz, hjlt]
    have hsetp : ∀ k ok, l[k]? = some ok → k ≠ jj → (listed.setIfInBounds j true).getD (ix.getD k 0) false = listed.getD (ix.getD k 0) false := fun k ok hk hne => by
      obtain ⟨i, i1, i2, i3⟩ := getI k ok hk
      rw [i3]
      exact hset i (fun e => hne (inj k jj j (e ▸ i1) hjj))
    refine ih (listed.setIfInBounds j true) E' a' w' (by simp [hsz]) (by have := toCome_set hsz hju; omega) (fun i oi hoi hi e he hb => ?_) (fun i hi => by rw [hset i (fun e => hi (e ▸ hjx))]; exact hD i hi) (h'.congr (fun t => ?_) (fun c => ?_))
    · by_cases hij : i = j
      · subst hij
        rw [hoj''] at hoi
        cases hoi
        exact getD_set_true (hready e he hb)
      · simp only [hset i hij] at hi
        exact getD_set_true (hcl i oi hoi hi e he hb)
    · by_cases hdt : oj.dst = some t
      · rw [sel_tm_last l es 0 s0 jj oj ej hoj' hej hdt (by rw [Nat.zero_add, hjD]; exact hsetj) (fun k ok hjk hk hdk => ?_)]
        · simp only [upd, hdt]; rw [lk_cons, if_pos rfl]
        · rw [Nat.zero_add, hsetp k ok hk (by omega)]
          obtain ⟨ek, hek⟩ := exE k ok hk
          cases hlk : listed.getD (ix.getD k 0) false with
          | false => rfl
          | true =>
            have := (unA (F2 k ok ek hjk hk hek hlk)).1
            exact (disj_not this (x := t) (by rw [hdt]; simp) (List.mem_append.2 (.inl (by rw [hdk]; simp)))).elim
      · have e1 : lk .any (upd (selS (fun p => listed.getD (ix.getD p 0) false) l es 0 s0) oj.dst ej.v ej.ch).tm t = lk .any (selS (fun p => listed.getD (ix.getD p 0) false) l es 0 s0).tm t := by
          simp only [upd]
          cases hq : oj.dst with
          | none => rfl
          | some d => rw [lk_cons, if_neg (fun e => hdt (by rw [hq, e]))]
        rw [e1]
        refine sel_tm _ _ _ _ _ rfl (fun k ok hk hdk => ?_)
        rw [Nat.zero_add]
        exact hsetp k ok hk (fun e => by subst e; rw [hoj'] at hk; cases hk; exact hdt hdk)
    · cases hct : lkO ej.ch c with
      | some v =>
        rw [sel_mem_last l es 0 s0 jj ej (by omega) hej hct (by rw [Nat.zero_add, hjD]; exact hsetj) (fun k ek hjk hek hck => ?_)]
        · simp only [upd]; rw [lkO_append, hct]
        · obtain ⟨ok, hk⟩ := exO k ek hek
          rw [Nat.zero_add, hsetp k ok hk (by omega)]
          cases hlk : listed.getD (ix.getD k 0) false with
          | false => rfl
          | true =>
            have := (unA (F2 k ok ek hjk hk hek hlk)).2.2.1
            exact (disj_not this (x := c) (keys_of (by rw [hct]; simp)) (List.mem_append.2 (.inl (keys_of hck)))).elim
      | none =>
        have e1 : lkO (upd (selS (fun p => listed.getD (ix.getD p 0) false) l es 0 s0) oj.dst ej.v ej.ch).mem c = lkO (selS (fun p => listed.getD (ix.getD p 0) false) l es 0 s0).mem c := by
          simp only [upd]; rw [lkO_append, hct]
        rw [e1]
        refine sel_mem _ _ _ _ _ rfl (fun k ek hek hck => ?_)
        obtain ⟨ok, hk⟩ := exO k ek hek
        rw [Nat.zero_add]
        exact hsetp k ok hk (fun e => by subst e; rw [hej] at hek; cases hek; exact hck hct)

theorem path_app (all : List Oper) : ∀ (l : List Oper) (s : St) (es : List Eff) (o : Oper) (e : Eff), Path cx all l s es → dOk cx o.dst = true → Step cx all (endS l es s) o e → Path cx all (l ++ [o]) s (es ++ [e]) ∧ endS (l ++ [o]) (es ++ [e]) s = upd (endS l es s) o.dst e.v e.ch
  | [], s, es, o, e, h, hd, hs => by
    have : es = [] := h
    subst this
    exact ⟨⟨e, [], rfl, hd, hs, rfl⟩, rfl⟩
  | o0 :: r, s, es, o, e, h, hd, hs => by
    obtain ⟨e0, es', rfl, h1, h2, h3⟩ := h
    obtain ⟨q1, q2⟩ := path_app all r _ es' o e h3 hd hs
    exact ⟨⟨e0, es' ++ [e], rfl, h1, h2, q1⟩, q2⟩
theorem endF_app : ∀ (es : List Eff) (i : Nat) (fs : List (Nat × Eff)) (e : Eff), endF i (es ++ [e]) fs = (i + es.length, e) :: endF i es fs
  | [], i, fs, e => by simp [endF]
  | e0 :: es, i, fs, e => by
    simp only [List.cons_append, endF]
    rw [endF_app es (i + 1) _ e, List.length_cons, show i + 1 + es.length = i + (es.length + 1) by omega]

theorem edgB_get {all : List Oper} (h : edgB all = true) : ∀ i o, all[i]? = some o → edgesOk o i = true := by
  intro i o ho
  unfold edgB at h
  rw [List.all_eq_true] at h
  have := h (o, i) (by rw [List.mem_iff_getElem?]; exact ⟨i, by simp [List.getElem?_zipIdx, ho]⟩)
  simp only [Bool.and_eq_true] at this
  exact this.2

theorem indS_get {all : List Oper} {b : List Nat} {lo n : Nat} {l : List Oper} {es : List Eff} (h : indS all b lo n (endF lo es []) = true) (hl : l.length = n) (he : es.length = n) (hla : ∀ k, k < n → l[k]? = all[lo + k]?) :
    ∀ i j oi oj ei ej, i < j → l[i]? = some oi → l[j]? = some oj → es[i]? = some ei → es[j]? = some ej → (b.getD (lo + j) 0).testBit (lo + i) = true ∨ apartE all oi oj ei ej = true := by
  intro i j oi oj ei ej hij hoi hoj hei hej
  have hj : j < n := by have := (List.getElem?_eq_some_iff.1 hoj).1; omega
  unfold indS at h
  rw [List.all_eq_true] at h
  have h1 := h j (List.mem_range.2 hj)
  rw [List.all_eq_true] at h1
  have h2 := h1 i (List.mem_range.2 hij)
  unfold pairB at h2
  rw [Bool.or_eq_true] at h2
  rcases h2 with h2 | h2
  · exact .inl h2
  · have q : ∀ k e, es[k]? = some e → lkO (endF lo es []) (lo + k) = some e := fun k e hk => by
      rw [lkO_endF, if_pos ⟨by omega, by have := (List.getElem?_eq_some_iff.1 hk).1; omega⟩]
      have : lo + k - lo = k := by omega
      rw [this]; exact hk
    rw [q i ei hei, q j ej hej, ← hla i (by omega), ← hla j hj, hoi, hoj] at h2
    exact .inr h2

/-! ### Operations that neither stand ahead of a call nor wait for it -/
def zipF : List (Nat × Oper) → List Eff → List (Nat × Eff) → List (Nat × Eff)
  | (j, _) :: r, e :: es, fs => zipF r es ((j, e) :: fs)
  | _, _, fs => fs
theorem wpZ_path (all : List Oper) (R : St → List (Nat × Eff) → Prop) : ∀ (z : List (Nat × Oper)) (s : St) (fs : List (Nat × Eff)), wpZ cx all R z s fs → ∃ es, Path cx all (z.map (·.2)) s es ∧ R (endS (z.map (·.2)) es s) (zipF z es fs)
  | [], s, fs, h => ⟨[], rfl, h⟩
  | (j, o) :: r, s, fs, h => by
    unfold wpZ at h
    obtain ⟨es, hp, hk⟩ := wpR_path _ _ _ _ _ _ h
    obtain ⟨e, es', rfl, hd, hs, hp'⟩ := hp
    have : es' = [] := hp'
    subst this
    obtain ⟨es2, q1, q2⟩ := wpZ_path all R r _ _ hk
    exact ⟨e :: es2, ⟨e, es2, rfl, hd, hs, q1⟩, q2⟩
theorem zipF_out {j : Nat} : ∀ {z : List (Nat × Oper)} {es : List Eff} {fs : List (Nat × Eff)}, j ∉ z.map (·.1) → lkO (zipF z es fs) j = lkO fs j
  | [], es, fs, _ => by cases es <;> rfl
  | _ :: _, [], fs, _ => rfl
  | (i, o) :: r, e :: es, fs, h => by
    simp only [List.map_cons, List.mem_cons, not_or] at h
    simp only [zipF]
    rw [zipF_out h.2, lkO_cons, if_neg (fun e => h.1 e.symm)]
theorem zipF_in : ∀ {z : List (Nat × Oper)} {es : List Eff} {fs : List (Nat × Eff)} {p j : Nat} {e : Eff}, (z.map (·.1)).Nodup → (z.map (·.1))[p]? = some j → es[p]? = some e → lkO (zipF z es fs) j = some e
  | [], es, fs, p, j, e, _, h, _ => by simp at h
  | _ :: _, [], fs, p, j, e, _, _, h => by simp at h
  | (i, o) :: r, e0 :: es, fs, 0, j, e, hn, h1, h2 => by
    simp only [List.map_cons, List.getElem?_cons_zero, Option.some.injEq, List.nodup_cons] at hn h1 h2
    subst h1 h2
    simp only [zipF]
    rw [zipF_out hn.1, lkO_cons, if_pos rfl]
  | (i, o) :: r, e0 :: es, fs, p + 1, j, e, hn, h1, h2 => by
    simp only [List.map_cons, List.getElem?_cons_succ, List.nodup_cons] at hn h1 h2
    simp only [zipF]
    exact zipF_in hn.2 h1 h2
theorem numsZ_map : ∀ (z : List (Nat × Oper)), numsZ z = z.map (·.1)
  | [] => rfl
  | (_, _) :: r => by simp [numsZ, numsZ_map r]
theorem pickZ_cons {b : List Nat} {c : Nat} {q : Bool} {o : Oper} {r : List Oper} {j : Nat} : pickZ b c q (o :: r) j = if (b.getD j 0).testBit c = q then (j, o) :: pickZ b c q r (j + 1) else pickZ b c q r (j + 1) := by
  conv => lhs; unfold pickZ
  cases (b.getD j 0).testBit c <;> cases q <;> rfl
theorem pickZ_mem {b : List Nat} {c : Nat} {q : Bool} : ∀ {r : List Oper} {j0 : Nat} {x : Nat × Oper}, x ∈ pickZ b c q r j0 ↔ ∃ k, x.1 = j0 + k ∧ r[k]? = some x.2 ∧ (b.getD x.1 0).testBit c = q
  | [], j0, x => by simp [pickZ]
  | o :: r, j0, x => by
    have ih : x ∈ pickZ b c q r (j0 + 1) ↔ _ := pickZ_mem
    have key : (∃ k, x.1 = j0 + k ∧ (o :: r)[k]? = some x.2 ∧ (b.getD x.1 0).testBit c = q) ↔ (x = (j0, o) ∧ (b.getD j0 0).testBit c = q) ∨ x ∈ pickZ b c q r (j0 + 1) := by
      rw [ih]
      constructor
      · rintro ⟨k, h1, h2, h3⟩
        cases k with
        | zero =>
          simp only [List.getElem?_cons_zero, Option.some.injEq] at h2
          have e : x = (j0, o) := Prod.ext h1 h2.symm
          subst e
          exact .inl ⟨rfl, h3⟩
        | succ k => exact .inr ⟨k, by omega, by simpa using h2, h3⟩
      · rintro (⟨rfl, h⟩ | ⟨k, h1, h2, h3⟩)
        · exact ⟨0, rfl, rfl, h⟩
        · exact ⟨k + 1, by omega, by simpa using h2, h3⟩
    rw [key, pickZ_cons]
    split
    · rename_i h1; simp only [List.mem_cons, h1, and_true]
    · rename_i h1; simp only [h1, and_false, false_or]
theorem pickZ_sorted {b : List Nat} {c : Nat} {q : Bool} : ∀ {r : List Oper} {j0 : Nat}, ((pickZ b c q r j0).map (·.1)).Pairwise (· < ·)
  | [], j0 => .nil
  | o :: r, j0 => by
    have ih : ((pickZ b c q r (j0 + 1)).map (·.1)).Pairwise (· < ·) := pickZ_sorted
    have hlt : ∀ x, x ∈ (pickZ b c q r (j0 + 1)).map (·.1) → j0 < x := fun x hx => by
      obtain ⟨y, hy, rfl⟩ := List.mem_map.1 hx
      obtain ⟨k, h1, _⟩ := pickZ_mem.1 hy
      omega
    unfold pickZ
    split
    · exact List.pairwise_cons.2 ⟨hlt, ih⟩
    · exact List.pairwise_cons.2 ⟨hlt, ih⟩
    · exact ih
theorem pairsB_get {all : List Oper} {b : List Nat} {fs : List (Nat × Eff)} : ∀ {ix : List Nat}, pairsB all b fs ix = true → ∀ (p q i j : Nat), p < q → ix[p]? = some i → ix[q]? = some j → pairB all b fs i j = true
  | [], _, p, q, i, j, _, h, _ => by simp at h
  | a :: r, h, 0, q, i, j, hpq, h1, h2 => by
    simp only [pairsB, Bool.and_eq_true, List.all_eq_true] at h
    simp only [List.getElem?_cons_zero, Option.some.injEq] at h1
    subst h1
    obtain ⟨q, rfl⟩ : ∃ k, q = k + 1 := ⟨q - 1, by omega⟩
    exact h.1 j (List.mem_iff_getElem?.2 ⟨q, by simpa using h2⟩)
  | a :: r, h, p + 1, q, i, j, hpq, h1, h2 => by
    simp only [pairsB, Bool.and_eq_true] at h
    obtain ⟨q, rfl⟩ : ∃ k, q = k + 1 := ⟨q - 1, by omega⟩
    exact pairsB_get h.2 p q i j (by omega) (by simpa using h1) (by simpa using h2)
theorem maskT_lk (t : Nat) (tm : List (Nat × SV)) : ∀ ds : List Nat, lk .any (maskT ds tm) t = if t ∈ ds then .any else lk .any tm t
  | [] => by simp [maskT]
  | d :: r => by
    rw [maskT, lk_cons, maskT_lk t tm r]
    by_cases h : d = t
    · subst h; simp
    · have h' : ¬ t = d := fun e => h e.symm
      simp [h, h']
theorem preT_lk (tm0 : List (Nat × SV)) (t : Nat) (tm : List (Nat × SV)) : ∀ ds : List Nat, lk .any (preT tm0 ds tm) t = if t ∈ ds then lk .any tm0 t else lk .any tm t
  | [] => by simp [preT]
  | d :: r => by
    rw [preT, lk_cons, preT_lk tm0 t tm r]
    by_cases h : d = t
    · subst h; simp
    · have h' : ¬ t = d := fun e => h e.symm
      simp [h, h']
theorem clTs_mem {tm : List (Nat × SV)} {t : Nat} : ∀ {ds : List Nat}, clTs tm ds = true → t ∈ ds → closed (lk .any tm t) = true
  | d :: r, h, ht => by
    simp only [clTs, Bool.and_eq_true] at h
    rcases List.mem_cons.1 ht with e | ht
    · subst e; exact h.1
    · exact clTs_mem h.2 ht
theorem sel_congr {D D' : Nat → Bool} : ∀ (l : List Oper) (es : List Eff) (i i' : Nat) (s : St), (∀ p, p < l.length → D (i + p) = D' (i' + p)) → selS D l es i s = selS D' l es i' s
  | [], es, i, i', s, _ => by cases es <;> rfl
  | _ :: _, [], i, i', s, _ => rfl
  | o :: r, e :: es, i, i', s, h => by
    simp only [selS]
    have h0 := h 0 (by simp)
    rw [Nat.add_zero, Nat.add_zero] at h0
    rw [h0]
    exact sel_congr r es (i + 1) (i' + 1) _ (fun p hp => by have := h (p + 1) (by simpa using hp); rwa [show i + 1 + p = i + (p + 1) by omega, show i' + 1 + p = i' + (p + 1) by omega])
theorem sel_app {D : Nat → Bool} (l2 : List Oper) (es2 : List Eff) : ∀ (l1 : List Oper) (es1 : List Eff) (i : Nat) (s : St), es1.length = l1.length → selS D (l1 ++ l2) (es1 ++ es2) i s = selS D l2 es2 (i + l1.length) (selS D l1 es1 i s)
  | [], [], i, s, _ => rfl
  | o :: r, e :: es, i, s, h => by
    simp only [List.cons_append, selS, List.length_cons]
    rw [sel_app l2 es2 r es (i + 1) _ (by simpa using h)]
    congr 1; omega
theorem endS_app (l2 : List Oper) (es2 : List Eff) : ∀ (l1 : List Oper) (es1 : List Eff) (s : St), es1.length = l1.length → endS (l1 ++ l2) (es1 ++ es2) s = endS l2 es2 (endS l1 es1 s)
  | [], [], s, _ => rfl
  | o :: r, e :: es, s, h => by
    simp only [List.cons_append, endS]
    exact endS_app l2 es2 r es _ (by simpa using h)
theorem path_append (all : List Oper) (l2 : List Oper) (es2 : List Eff) : ∀ (l1 : List Oper) (es1 : List Eff) (s : St), Path cx all l1 s es1 → Path cx all l2 (endS l1 es1 s) es2 → Path cx all (l1 ++ l2) s (es1 ++ es2)
  | [], es1, s, h1, h2 => by
    have : es1 = [] := h1
    subst this; exact h2
  | o :: r, es1, s, h1, h2 => by
    obtain ⟨e, es', rfl, q1, q2, q3⟩ := h1
    exact ⟨e, es' ++ es2, rfl, q1, q2, path_append all l2 es2 r es' _ q3 h2⟩
theorem upd_tm {s s' : St} {d : Option Nat} {v : SV} {ch : List (Nat × Chunk)} {t : Nat} (h : lk .any s.tm t = lk .any s'.tm t ∨ d = some t) : lk .any (upd s d v ch).tm t = lk .any (upd s' d v ch).tm t := by
  cases d with
  | none => exact h.resolve_right (fun h => by cases h)
  | some k =>
    simp only [upd]
    rw [lk_cons, lk_cons]
    by_cases e : k = t
    · rw [if_pos e, if_pos e]
    · rw [if_neg e, if_neg e]
      exact h.resolve_right (fun h => e (by simpa using h))
theorem upd_tm_ne {s : St} {d : Option Nat} {v : SV} {ch : List (Nat × Chunk)} {t : Nat} (h : d ≠ some t) : lk .any (upd s d v ch).tm t = lk .any s.tm t := by
  cases d with
  | none => rfl
  | some k =>
    simp only [upd]
    rw [lk_cons, if_neg (fun e => h (by rw [e]))]
theorem path_congr (all : List Oper) : ∀ (l : List Oper) (es : List Eff) (s s' : St), (∀ t, lk .any s'.tm t = lk .any s.tm t) → (∀ c, lkO s'.mem c = lkO s.mem c) → Path cx all l s es → Path cx all l s' es
  | [], es, s, s', _, _, h => h
  | o :: r, es, s, s', ht, hm, h => by
    obtain ⟨e, es', rfl, q1, q2, q3⟩ := h
    exact ⟨e, es', rfl, q1, q2.move (fun t _ => ht t) (fun c _ => hm c), path_congr all r es' _ _ (fun t => upd_tm (.inl (ht t))) (fun c => by simp only [upd]; rw [lkO_append, lkO_append, hm]) q3⟩
theorem endS_congr : ∀ (l : List Oper) (es : List Eff) (s s' : St), (∀ t, lk .any s'.tm t = lk .any s.tm t) → (∀ c, lkO s'.mem c = lkO s.mem c) → (∀ t, lk .any (endS l es s').tm t = lk .any (endS l es s).tm t) ∧ ∀ c, lkO (endS l es s').mem c = lkO (endS l es s).mem c
  | [], es, s, s', ht, hm => by cases es <;> exact ⟨ht, hm⟩
  | _ :: _, [], s, s', ht, hm => ⟨ht, hm⟩
  | o :: r, e :: es, s, s', ht, hm => endS_congr r es _ _ (fun t => upd_tm (.inl (ht t))) (fun c => by simp only [upd]; rw [lkO_append, lkO_append, hm])
theorem not_disj {a b : List Nat} (h : disj a b = true) {x : Nat} (ha : x ∈ a) : x ∉ b := fun hb => disj_not h ha hb
/-- From another state in which they find the same. -/
theorem path_move (all : List Oper) : ∀ (z : List (Nat × Oper)) (es : List Eff) (s s' : St), ordZ all z = true → (∀ e, e ∈ es → e.rd = []) → (∀ t, t ∈ looksZ all z → t ∈ dstsZ z ∨ lk .any s'.tm t = lk .any s.tm t) → Path cx all (z.map (·.2)) s es → Path cx all (z.map (·.2)) s' es
  | [], es, s, s', _, _, _, h => h
  | (j, o) :: r, es, s, s', ho, hrd, ht, h => by
    obtain ⟨e, es', rfl, q1, q2, q3⟩ := h
    simp only [ordZ, Bool.and_eq_true] at ho
    refine ⟨e, es', rfl, q1, q2.move (fun t hlt => ?_) (fun c hc => (by rw [hrd e (List.mem_cons_self ..)] at hc; cases hc)), path_move all r es' _ _ ho.2 (fun e he => hrd e (List.mem_cons_of_mem _ he)) (fun t hlt => ?_) q3⟩
    · rcases ht t (by simp only [looksZ]; exact List.mem_append.2 (.inl hlt)) with h1 | h1
      · exact (not_disj ho.1.1 hlt h1).elim
      · exact h1
    · rcases ht t (by simp only [looksZ]; exact List.mem_append.2 (.inr hlt)) with h1 | h1
      · simp only [dstsZ] at h1
        rcases List.mem_append.1 h1 with h1 | h1
        · exact .inr (upd_tm (.inr (by simpa using h1)))
        · exact .inl h1
      · exact .inr (upd_tm (.inl h1))
theorem selZ_not {D : Nat → Bool} {t : Nat} : ∀ (z : List (Nat × Oper)) (es : List Eff) (i : Nat) (s : St), t ∉ dstsZ z → lk .any (selS D (z.map (·.2)) es i s).tm t = lk .any s.tm t
  | [], es, i, s, _ => by cases es <;> rfl
  | (j, o) :: r, [], i, s, _ => rfl
  | (j, o) :: r, e :: es, i, s, h => by
    simp only [dstsZ, List.mem_append, not_or] at h
    simp only [List.map_cons, selS]
    rw [selZ_not r es (i + 1) _ h.2]
    split
    · exact upd_tm_ne (fun e => h.1 (by rw [e]; simp))
    · rfl
theorem selZ_in {all : List Oper} {D : Nat → Bool} {t : Nat} : ∀ (z : List (Nat × Oper)) (es : List Eff) (i : Nat), ordZ all z = true → es.length = z.length → t ∈ dstsZ z →
    (∀ s, lk .any (selS D (z.map (·.2)) es i s).tm t = lk .any s.tm t) ∨ ∀ s s', lk .any (selS D (z.map (·.2)) es i s).tm t = lk .any (endS (z.map (·.2)) es s').tm t
  | [], es, i, _, _, h => by cases h
  | (j, o) :: r, e :: es, i, ho, hl, h => by
    simp only [ordZ, Bool.and_eq_true] at ho
    simp only [dstsZ] at h
    rcases List.mem_append.1 h with h1 | h1
    · have hr : t ∉ dstsZ r := not_disj ho.1.2 h1
      have hd : o.dst = some t := by simpa using h1
      have e2 : ∀ s', lk .any (endS (r.map (·.2)) es s').tm t = lk .any s'.tm t := fun s' => by rw [← sel_all _ _ 0]; exact selZ_not r es 0 s' hr
      cases hD : D i with
      | false => refine .inl fun s => ?_; simp only [List.map_cons, selS, hD]; exact selZ_not r es (i + 1) s hr
      | true =>
        refine .inr fun s s' => ?_
        simp only [List.map_cons, selS, hD, endS]
        rw [selZ_not r es (i + 1) _ hr, e2]
        exact upd_tm (.inr hd)
    · rcases selZ_in r es (i + 1) ho.2 (by simpa using hl) h1 with q | q
      · refine .inl fun s => ?_
        have hd : o.dst ≠ some t := fun e => not_disj ho.1.2 (x := t) (by rw [e]; simp) h1
        simp only [List.map_cons, selS]
        rw [q]
        split
        · exact upd_tm_ne hd
        · rfl
      · exact .inr fun s s' => by simp only [List.map_cons, selS, endS]; exact q _ _
theorem endZ_in {all : List Oper} {t : Nat} : ∀ (z : List (Nat × Oper)) (es : List Eff), ordZ all z = true → es.length = z.length → t ∈ dstsZ z → ∀ s s', lk .any (endS (z.map (·.2)) es s).tm t = lk .any (endS (z.map (·.2)) es s').tm t
  | [], es, _, _, h => by cases h
  | (j, o) :: r, e :: es, ho, hl, h => fun s s' => by
    simp only [ordZ, Bool.and_eq_true] at ho
    simp only [dstsZ] at h
    simp only [List.map_cons, endS]
    by_cases h2 : t ∈ dstsZ r
    · exact endZ_in r es ho.2 (by simpa using hl) h2 _ _
    · have hd : o.dst = some t := by simpa using (List.mem_append.1 h).resolve_right h2
      rw [← sel_all _ _ 0, ← sel_all _ _ 0, selZ_not r es 0 _ h2, selZ_not r es 0 _ h2]
      exact upd_tm (.inr hd)
theorem selZ_mem {D : Nat → Bool} : ∀ (l : List Oper) (es : List Eff) (i : Nat) (s : St), (∀ e, e ∈ es → e.ch = []) → (selS D l es i s).mem = s.mem
  | [], es, i, s, _ => by cases es <;> rfl
  | _ :: _, [], i, s, _ => rfl
  | o :: r, e :: es, i, s, h => by
    simp only [selS]
    rw [selZ_mem r es (i + 1) _ (fun e he => h e (List.mem_cons_of_mem _ he))]
    split
    · simp only [upd]; rw [h e (List.mem_cons_self ..)]; rfl
    · rfl
/-- A call in place, and operations that may be carried out ahead of it or behind it. -/
theorem float_run (hP : CxOk P cx) {ops : Array Oper} {id : Nat} {K : St → Prop} (hR : ∀ E s a w, Rel P cx.nt B M I0 G w0 E s a w → K s → Q .normal a w) (hedge : ∀ i o, ops.toList[i]? = some o → edgesOk o i = true)
    {r : List Oper} {lo c : Nat} {l1 : List Oper} {es1 : List Eff} {s0 : St} {T : Tr} {as : List SV} (hc : c = lo + l1.length) (hl : ∀ k, (l1 ++ o :: r)[k]? = ops.toList[lo + k]?) (hp : Path cx ops.toList l1 s0 es1)
    (hin : inlOf cx (ev (endS l1 es1 s0).tm) o = some (T, as)) (hd : dOk cx o.dst = true) (hw : wantB ops.toList (endS l1 es1 s0).tm o = some true)
    (hf : wpFl cx id ops.toList (befN ops.toList []) K o T as (pickZ (befN ops.toList []) c false r (c + 1)) (pickZ (befN ops.toList []) c true r (c + 1)) lo c (endS l1 es1 s0) (endF lo es1 [])) :
    ∀ (fuel : Nat) (listed : Array Bool) (E : Env) (a : Act) (w : World), listed.size = ops.size → toCome ops.size listed = fuel → Closed ops.toList (fun i => listed.getD i false) → (∀ i, i < lo → listed.getD i false = true) → (∀ i, lo ≤ i → listed.getD i false = false) →
      Rel P cx.nt B M I0 G w0 E s0 a w → wpAny P .any ops Q fuel listed a w := by
  have hl1 := path_length ops.toList l1 s0 es1 hp
  generalize hzf : pickZ (befN ops.toList []) c false r (c + 1) = zf at hf
  generalize hzb : pickZ (befN ops.toList []) c true r (c + 1) = zb at hf
  have ho : ops.toList[c]? = some o := by
    have := hl l1.length
    rw [List.getElem?_append_right (Nat.le_refl _), Nat.sub_self] at this
    rw [hc]; simpa using this.symm
  have hclt : c < ops.size := by have := (List.getElem?_eq_some_iff.1 ho).1; simpa using this
  have hrg : ∀ k, r[k]? = ops.toList[c + 1 + k]? := fun k => by
    have := hl (l1.length + 1 + k)
    rw [List.getElem?_append_right (by omega), show l1.length + 1 + k - l1.length = k + 1 by omega, List.getElem?_cons_succ] at this
    rw [this]; congr 1; omega
  have zfm : ∀ x : Nat × Oper, x ∈ zf ↔ ∃ k, x.1 = c + 1 + k ∧ r[k]? = some x.2 ∧ ((befN ops.toList []).getD x.1 0).testBit c = false := fun x => by rw [← hzf]; exact pickZ_mem
  have zbm : ∀ x : Nat × Oper, x ∈ zb ↔ ∃ k, x.1 = c + 1 + k ∧ r[k]? = some x.2 ∧ ((befN ops.toList []).getD x.1 0).testBit c = true := fun x => by rw [← hzb]; exact pickZ_mem
  have zfs : (zf.map (·.1)).Pairwise (· < ·) := by rw [← hzf]; exact pickZ_sorted
  have zbs : (zb.map (·.1)).Pairwise (· < ·) := by rw [← hzb]; exact pickZ_sorted
  have zfn : (zf.map (·.1)).Nodup := zfs.imp Nat.ne_of_lt
  have zbn : (zb.map (·.1)).Nodup := zbs.imp Nat.ne_of_lt
  have zfo : ∀ x, x ∈ zf → ops.toList[x.1]? = some x.2 := fun x hx => by
    obtain ⟨k, h1, h2, _⟩ := (zfm x).1 hx
    rw [h1, ← hrg]; exact h2
  have zbo : ∀ x, x ∈ zb → ops.toList[x.1]? = some x.2 := fun x hx => by
    obtain ⟨k, h1, h2, _⟩ := (zbm x).1 hx
    rw [h1, ← hrg]; exact h2
  have zfc : ∀ i, i ∈ zf.map (·.1) → c < i ∧ ((befN ops.toList []).getD i 0).testBit c = false := fun i hi => by
    obtain ⟨x, hx, rfl⟩ := List.mem_map.1 hi
    obtain ⟨k, h1, _, h3⟩ := (zfm x).1 hx
    exact ⟨by omega, h3⟩
  have zbc : ∀ i, i ∈ zb.map (·.1) → c < i ∧ ((befN ops.toList []).getD i 0).testBit c = true := fun i hi => by
    obtain ⟨x, hx, rfl⟩ := List.mem_map.1 hi
    obtain ⟨k, h1, _, h3⟩ := (zbm x).1 hx
    exact ⟨by omega, h3⟩
  have zall : ∀ i, c < i → i < ops.size → i ∈ zf.map (·.1) ∨ i ∈ zb.map (·.1) := fun i h1 h2 => by
    have hoi : ops.toList[i]? = some ops[i] := by simp [h2]
    have hk : r[i - (c + 1)]? = some ops[i] := by rw [hrg, show c + 1 + (i - (c + 1)) = i by omega]; exact hoi
    cases hb : ((befN ops.toList []).getD i 0).testBit c with
    | false => exact .inl (List.mem_map.2 ⟨(i, ops[i]), (zfm _).2 ⟨i - (c + 1), by dsimp only; omega, hk, hb⟩, rfl⟩)
    | true => exact .inr (List.mem_map.2 ⟨(i, ops[i]), (zbm _).2 ⟨i - (c + 1), by dsimp only; omega, hk, hb⟩, rfl⟩)
  unfold wpFl at hf
  obtain ⟨esF, hpF, hf⟩ := wpZ_path _ _ _ _ _ hf
  have hlF : esF.length = zf.length := by have := path_length ops.toList _ _ esF hpF; simpa using this
  split at hf
  rotate_left
  · exact hf.elim
  rename_i hfl
  unfold flB at hfl
  simp only [Bool.and_eq_true] at hfl
  obtain ⟨c1, c2, c3, c4, c5, c6, c7⟩ := hfl
  rw [numsZ_map] at c2
  have hn : c - lo = l1.length := by omega
  rw [hn] at c1 c2
  have hpure : ∀ e, e ∈ esF → e.ch = [] ∧ e.rd = [] := fun e he => by
    obtain ⟨p, hpe⟩ := List.mem_iff_getElem?.1 he
    have hpl : p < zf.length := by have := (List.getElem?_eq_some_iff.1 hpe).1; omega
    unfold pureZ at c3
    rw [List.all_eq_true] at c3
    have := c3 _ (List.getElem_mem hpl)
    rw [zipF_in (z := zf) (p := p) (e := e) zfn (by simp [hpl]) hpe] at this
    dsimp only at this
    rw [Bool.and_eq_true, List.isEmpty_iff, List.isEmpty_iff] at this
    exact this
  have bar1 : ∀ i, lo ≤ i → i < c → ((befN ops.toList []).getD c 0).testBit i = true := fun i h1 h2 => by
    rw [List.all_eq_true] at c1
    have := c1 (i - lo) (List.mem_range.2 (by omega))
    rwa [show lo + (i - lo) = i by omega] at this
  intro fuel listed E a w hsz hcm hcl hA hB h
  -- the first part
  have rng : ∀ p : Nat, (List.range' lo l1.length)[p]? = if p < l1.length then some (lo + p) else none := fun p => by
    by_cases hpl : p < l1.length
    · rw [if_pos hpl, List.getElem?_range' hpl]; simp
    · rw [if_neg hpl]; exact List.getElem?_eq_none (by simp; omega)
  have lkZ : ∀ (z : List (Nat × Oper)), (∀ x, x ∈ z → ops.toList[x.1]? = some x.2) → ∀ p : Nat, (z.map (·.2))[p]? = ((z.map (·.1))[p]?).bind fun i => ops.toList[i]? := fun z hz p => by
    rw [List.getElem?_map, List.getElem?_map]
    cases hzp : z[p]? with
    | none => rfl
    | some x => simp only [Option.map_some, Option.bind_some]; exact (hz x (List.mem_iff_getElem?.2 ⟨p, hzp⟩)).symm
  have hla : ∀ k, k < l1.length → l1[k]? = ops.toList[lo + k]? := fun k hk => by
    have := hl k
    rwa [List.getElem?_append_left hk] at this
  have selN : ∀ (l : List Oper) (es : List Eff) (i : Nat) (s : St) (D : Nat → Bool), (∀ p, p < l.length → D (i + p) = false) → selS D l es i s = s := fun l es i s D hD => by
    rw [sel_congr (D' := fun _ => false) l es i i s (fun p hp => hD p hp), sel_none]
  have selA : ∀ (l : List Oper) (es : List Eff) (i : Nat) (s : St) (D : Nat → Bool), (∀ p, p < l.length → D (i + p) = true) → selS D l es i s = endS l es s := fun l es i s D hD => by
    rw [sel_congr (D' := fun _ => true) l es i i s (fun p hp => hD p hp), sel_all]
  have d1 : ∀ (lst : Array Bool) (p : Nat), p < l1.length → lst.getD ((List.range' lo l1.length ++ zf.map (·.1)).getD p 0) false = lst.getD (lo + p) false := fun lst p hpl => by
    rw [List.getD_eq_getElem?_getD, List.getElem?_append_left (by simpa using hpl), rng, if_pos hpl]; rfl
  refine ix_run hP (ix := List.range' lo l1.length ++ zf.map (·.1)) (l := l1 ++ zf.map (·.2)) (es := es1 ++ esF) (s0 := s0) (D0 := fun i => decide (i < lo)) (fun p => ?_) (by simp) ?_ (path_append _ _ _ _ _ _ hp hpF) hedge (fun p q i j oi oj ei ej hpq hi hj hoi hoj hei hej => ?_)
    (fun fuel listed E a w hsz hcm hcl hD h j hj hjx => ?_) (fun listed E a w hall hD h => ?_) fuel listed E a w hsz hcm hcl (fun i hi => ?_) (by
      rw [selN _ _ _ _ _ (fun p hpl => ?_)]
      · exact h
      · rw [Nat.zero_add]
        rcases Nat.lt_or_ge p l1.length with h1 | h1
        · rw [d1 _ _ h1]; exact hB _ (by omega)
        · have hpz : p - l1.length < (zf.map (·.1)).length := by simp at hpl ⊢; omega
          have : (List.range' lo l1.length ++ zf.map (·.1)).getD p 0 = (zf.map (·.1))[p - l1.length] := by
            rw [List.getD_eq_getElem?_getD, List.getElem?_append_right (by simp; omega), List.length_range', List.getElem?_eq_getElem hpz]; rfl
          rw [this]
          have := (zfc _ (List.getElem_mem hpz)).1
          exact hB _ (by omega))
  · rcases Nat.lt_or_ge p l1.length with h1 | h1
    · rw [List.getElem?_append_left h1, List.getElem?_append_left (by simpa using h1), rng, if_pos h1, Option.bind_some]
      exact hla p h1
    · rw [List.getElem?_append_right h1, List.getElem?_append_right (by simpa using h1), List.length_range']
      exact lkZ zf zfo _
  · rw [List.nodup_append]
    refine ⟨List.nodup_range', zfn, fun x hx y hy e => ?_⟩
    have h1 := List.mem_range'_1.1 hx
    have h2 := (zfc y hy).1
    omega
  · have lkE : ∀ (p i : Nat) e, (List.range' lo l1.length ++ zf.map (·.1))[p]? = some i → (es1 ++ esF)[p]? = some e → lkO (zipF zf esF (endF lo es1 [])) i = some e := fun p i e hi he => by
      rcases Nat.lt_or_ge p l1.length with h1 | h1
      · rw [List.getElem?_append_left (by simpa using h1), rng, if_pos h1] at hi
        rw [List.getElem?_append_left (by omega)] at he
        cases hi
        rw [zipF_out (fun hm => by have := (zfc _ hm).1; omega), lkO_endF, if_pos ⟨by omega, by omega⟩, show lo + p - lo = p by omega]
        exact he
      · rw [List.getElem?_append_right (by simpa using h1), List.length_range'] at hi
        rw [List.getElem?_append_right (by omega), hl1] at he
        exact zipF_in zfn hi he
    have hpb := pairsB_get c2 p q i j hpq hi hj
    unfold pairB at hpb
    rw [Bool.or_eq_true] at hpb
    rcases hpb with h1 | h1
    · exact .inl h1
    · rw [lkE p i ei hi hei, lkE q j ej hj hej] at h1
      have hx : ∀ (p i : Nat) oi, (List.range' lo l1.length ++ zf.map (·.1))[p]? = some i → (l1 ++ zf.map (·.2))[p]? = some oi → ops.toList[i]? = some oi := fun p i oi hi hoi => by
        rcases Nat.lt_or_ge p l1.length with h1 | h1
        · rw [List.getElem?_append_left (by simpa using h1), rng, if_pos h1] at hi
          rw [List.getElem?_append_left h1, hla p h1] at hoi
          cases hi; exact hoi
        · rw [List.getElem?_append_right (by simpa using h1), List.length_range'] at hi
          rw [List.getElem?_append_right h1, lkZ zf zfo, hi, Option.bind_some] at hoi
          exact hoi
      rw [hx p i oi hi hoi, hx q j oj hj hoj] at h1
      exact .inr h1
  · -- what is carried out besides these: the call
    obtain ⟨hju, oj, hoj, hdep⟩ := mem_ready.1 hj
    have hjlt : j < ops.size := (Array.getElem?_eq_some_iff.1 hoj).1
    have hjf : listed.getD j false = false := by
      rw [Array.getD_eq_getD_getElem?, Array.getElem?_eq_getElem (by omega)] at hju ⊢
      simpa using hju
    have hready : Ready oj (fun i => listed.getD i false) := fun e he hb => hdep e (by simpa using he) hb
    have hbef0 := fun i hi => befN_bit hcl hedge ops.toList 0 [] (by simp) rfl (fun j o h => by omega) j oj (by simpa using hoj) hready i hi
    have hcx : c ∉ List.range' lo l1.length ++ zf.map (·.1) := fun hm => by
      rcases List.mem_append.1 hm with h1 | h1
      · have := List.mem_range'_1.1 h1; omega
      · have := (zfc _ h1).1; omega
    have hcf : listed.getD c false = false := by rw [hD c hcx]; exact decide_eq_false (by omega)
    have hjc : j = c := by
      rw [List.mem_append, not_or] at hjx
      rcases Nat.lt_trichotomy j c with h1 | h1 | h1
      · rcases Nat.lt_or_ge j lo with h2 | h2
        · have := hD j (fun hm => by
            rcases List.mem_append.1 hm with h3 | h3
            · have := List.mem_range'_1.1 h3; omega
            · have := (zfc _ h3).1; omega)
          rw [hjf, decide_eq_true h2] at this; cases this
        · exact (hjx.1 (List.mem_range'_1.2 ⟨h2, by omega⟩)).elim
      · exact h1
      · rcases zall j h1 hjlt with h2 | h2
        · exact (hjx.2 h2).elim
        · have := hbef0 c (zbc _ h2).2
          rw [hcf] at this; cases this
    subst hjc
    have hoo : oj = o := by
      have : ops.toList[j]? = some oj := by simpa using hoj
      rw [ho] at this; exact (Option.some.inj this).symm
    subst hoo
    have hdone : ∀ p, p < l1.length → listed.getD (lo + p) false = true := fun p hp => hbef0 (lo + p) (bar1 _ (by omega) (by omega))
    generalize hs1 : endS l1 es1 s0 = s1 at hin hw hpF hf c2 c3 c5
    let X : Nat → Bool := fun p => listed.getD ((zf.map (·.1)).getD p 0) false
    have hσ : selS (fun p => listed.getD ((List.range' lo l1.length ++ zf.map (·.1)).getD p 0) false) (l1 ++ zf.map (·.2)) (es1 ++ esF) 0 s0 = selS X (zf.map (·.2)) esF 0 s1 := by
      rw [sel_app _ _ _ _ _ _ hl1, selA l1 es1 0 s0 _ (fun p hpl => by rw [Nat.zero_add, d1 _ _ hpl]; exact hdone p hpl), hs1]
      refine sel_congr _ _ _ _ _ (fun p hpl => ?_)
      simp only [X, Nat.zero_add]
      congr 1
      rw [List.getD_eq_getElem?_getD, List.getD_eq_getElem?_getD, List.getElem?_append_right (by simp), List.length_range', Nat.add_sub_cancel_left]
    rw [hσ] at h
    have hσm : (selS X (zf.map (·.2)) esF 0 s1).mem = s1.mem := selZ_mem _ _ _ _ (fun e he => (hpure e he).1)
    have hσn : ∀ t, t ∉ dstsZ zf → lk .any (selS X (zf.map (·.2)) esF 0 s1).tm t = lk .any s1.tm t := fun t ht => selZ_not zf esF 0 s1 ht
    have hFn : ∀ t, t ∉ dstsZ zf → lk .any (endS (zf.map (·.2)) esF s1).tm t = lk .any s1.tm t := fun t ht => by rw [← sel_all _ _ 0]; exact selZ_not zf esF 0 s1 ht
    have h1 : Rel P cx.nt B M I0 G w0 E ⟨maskT (dstsZ zf) s1.tm, s1.mem⟩ a w := h.less (fun t => by
      dsimp only
      rw [maskT_lk]
      by_cases ht : t ∈ dstsZ zf
      · rw [if_pos ht]; exact .inl rfl
      · rw [if_neg ht]; exact .inr (hσn t ht).symm) (fun k => by rw [hσm])
    have hmk : ∀ t, t ∈ looks ops.toList oj → lk .any (maskT (dstsZ zf) s1.tm) t = lk .any s1.tm t := fun t ht => by
      rw [maskT_lk, if_neg (fun hm => not_disj c6 hm (List.mem_append.2 (.inl ht)))]
    have hin' : inlOf cx (ev (maskT (dstsZ zf) s1.tm)) oj = some (T, as) := by
      rw [← hin]
      refine inlOf_congr (fun x hx => ?_)
      cases x with
      | tmp t =>
        refine hmk t ?_
        unfold looks
        refine List.mem_append.2 (.inl ?_)
        rw [List.mem_filterMap]
        exact ⟨.tmp t, by simpa using hx, rfl⟩
      | const v => rfl
      | global g => rfl
      | func f => rfl
    have hw' : wantB ops.toList (maskT (dstsZ zf) s1.tm) oj = some true := by
      rw [← hw]
      unfold wantB
      cases hg : oj.guard with
      | none => rfl
      | some g =>
        obtain ⟨j', b⟩ := g
        dsimp only
        cases hj' : ops.toList[j']? with
        | none => rfl
        | some oj' =>
          dsimp only
          cases hdj : oj'.dst with
          | none => rfl
          | some d =>
            dsimp only
            rw [hmk d (by unfold looks; rw [hg]; simp [hj', hdj])]
    unfold wpOp
    have ho' : ops[j]? = some oj := hoj
    simp only [ho']
    rw [if_pos (wantB_run h1 hw')]
    refine .inl (inl_wp2 hP h1.narrow hin' hd hf (fun E' s' x w' h2 hk => ?_))
    obtain ⟨h3, hI⟩ := h1.widen h2
    obtain ⟨esB, hpB, hk⟩ := wpZ_path _ _ _ _ _ hk
    have hlB : esB.length = zb.length := by have := path_length ops.toList _ _ esB hpB; simpa using this
    split at hk
    rotate_left
    · exact hk.elim
    rename_i hpr
    rw [numsZ_map, numsZ_map] at hpr
    generalize hs1F : endS (zf.map (·.2)) esF s1 = s1F at hk hpB hFn c5
    -- the state ahead of these, and behind them
    let s2 : St := ⟨preT s1F.tm (looksZ ops.toList zf ++ dstsZ zf) s'.tm, s'.mem⟩
    let s2b : St := ⟨maskT (dstsZ zf) (preT s1F.tm (looksZ ops.toList zf) s'.tm), s'.mem⟩
    have hs2b : ∀ t, t ∉ dstsZ zf → lk .any s2b.tm t = if t ∈ looksZ ops.toList zf then lk .any s1F.tm t else lk .any s'.tm t := fun t ht => by
      show lk .any (maskT _ _) t = _
      rw [maskT_lk, if_neg ht, preT_lk]
    have hs2m : ∀ t, t ∈ dstsZ zf → lk .any s2b.tm t = .any := fun t ht => by
      show lk .any (maskT _ _) t = _
      rw [maskT_lk, if_pos ht]
    have hpZ : Path cx ops.toList (zf.map (·.2)) s2b esF := path_move _ zf esF s1 s2b c4 (fun e he => (hpure e he).2) (fun t ht => by
      by_cases hm : t ∈ dstsZ zf
      · exact .inl hm
      · refine .inr ?_
        rw [hs2b t hm, if_pos ht, hFn t hm]) hpF
    have hend : (∀ t, lk .any (endS (zf.map (·.2)) esF s2b).tm t = lk .any s2.tm t) ∧ ∀ k, lkO (endS (zf.map (·.2)) esF s2b).mem k = lkO s2.mem k := by
      refine ⟨fun t => ?_, fun k => ?_⟩
      · show _ = lk .any (preT _ _ _) t
        rw [preT_lk]
        by_cases hm : t ∈ dstsZ zf
        · rw [if_pos (List.mem_append.2 (.inr hm)), ← hs1F]
          exact endZ_in zf esF c4 hlF hm _ _
        · rw [← sel_all _ _ 0, selZ_not zf esF 0 s2b hm, hs2b t hm]
          by_cases hl : t ∈ looksZ ops.toList zf
          · rw [if_pos hl, if_pos (List.mem_append.2 (.inl hl))]
          · rw [if_neg hl, if_neg (fun hx => by rcases List.mem_append.1 hx with hx | hx; exact hl hx; exact hm hx)]
      · rw [← sel_all _ _ 0, selZ_mem _ _ _ _ (fun e he => (hpure e he).1)]
    have hpB' : Path cx ops.toList (zb.map (·.2)) (endS (zf.map (·.2)) esF s2b) esB := path_congr _ _ _ s2 _ hend.1 hend.2 hpB
    have hju' : listed.getD j true = false := hju
    have hset : ∀ k, k ≠ j → (listed.setIfInBounds j true).getD k false = listed.getD k false := fun k hk => getD_set_ne false (Ne.symm hk)
    have hsetj : (listed.setIfInBounds j true).getD j false = true := by simp [Array.getD_eq_getD_getElem?, hsz, hjlt]
    have zbf : ∀ i, i ∈ zb.map (·.1) → listed.getD i false = false := fun i hi => by
      have h4 := zbc i hi
      have := hD i (fun hm => by
        rcases List.mem_append.1 hm with h3 | h3
        · have := List.mem_range'_1.1 h3; omega
        · have := (zfc _ h3).2; rw [h4.2] at this; cases this)
      rw [this]; exact decide_eq_false (by omega)
    have hdis : ∀ i, i ∈ zf.map (·.1) → i ∉ zb.map (·.1) := fun i h4 h5 => by
      have := (zfc i h4).2
      rw [(zbc i h5).2] at this; cases this
    have dF : ∀ (lst : Array Bool) p, p < zf.length → lst.getD ((zf.map (·.1) ++ zb.map (·.1)).getD p 0) false = lst.getD ((zf.map (·.1)).getD p 0) false := fun lst p hpl => by
      congr 1
      rw [List.getD_eq_getElem?_getD, List.getD_eq_getElem?_getD, List.getElem?_append_left (by simpa using hpl)]
    have hτ : selS (fun p => (listed.setIfInBounds j true).getD ((zf.map (·.1) ++ zb.map (·.1)).getD p 0) false) (zf.map (·.2) ++ zb.map (·.2)) (esF ++ esB) 0 s2b = selS X (zf.map (·.2)) esF 0 s2b := by
      rw [sel_app _ _ _ _ _ _ (by simpa using hlF), selN _ _ _ _ _ (fun p hpl => ?_)]
      · refine sel_congr _ _ _ _ _ (fun p hpl => ?_)
        rw [Nat.zero_add, dF _ _ (by simpa using hpl)]
        have hm : (zf.map (·.1)).getD p 0 ∈ zf.map (·.1) := by
          rw [List.getD_eq_getElem?_getD, List.getElem?_eq_getElem (by simpa using hpl)]; exact List.getElem_mem _
        exact hset _ (fun e => by have := (zfc _ hm).1; omega)
      · have hpl' : p < (zb.map (·.1)).length := by simpa using hpl
        have : (zf.map (·.1) ++ zb.map (·.1)).getD (0 + (zf.map (·.2)).length + p) 0 = (zb.map (·.1))[p] := by
          rw [List.getD_eq_getElem?_getD, List.getElem?_append_right (by simp), List.length_map, List.length_map, Nat.zero_add, Nat.add_sub_cancel_left, List.getElem?_eq_getElem hpl']; rfl
        rw [this]
        have hm := List.getElem_mem hpl'
        rw [hset _ (fun e => by have := (zbc _ hm).1; omega)]
        exact zbf _ hm
    -- what is known behind the call
    have hval : ∀ t, t ∉ oj.dst.toList → closed (lk .any (selS X (zf.map (·.2)) esF 0 s1).tm t) = true → CV E' (lkO s'.mem) w' ((a.put oj.dst x).tmps.getD t undef) (lk .any (selS X (zf.map (·.2)) esF 0 s1).tm t) := fun t ht hcl => by
      have h4 := closed_conc _ _ hcl (h.tm t)
      have h5 : (a.put oj.dst x).tmps.getD t undef = a.tmps.getD t undef := by
        cases hdd : oj.dst with
        | none => rfl
        | some d =>
          have hk : d < a.tmps.size := by rw [h.tsize]; exact dOk_lt hd d hdd
          rw [put_getD hk, if_neg (fun e => ht (by rw [hdd, e]; simp))]
      rw [h5]
      exact .conc _ _ (h4.mono (fun b hb => (hI b hb).1) (fun b hb => (hI b hb).2))
    have hrel : Rel P cx.nt B M I0 G w0 E' (selS X (zf.map (·.2)) esF 0 s2b) (a.put oj.dst x) w' := by
      have em : (selS X (zf.map (·.2)) esF 0 s2b).mem = s'.mem := selZ_mem _ _ _ _ (fun e he => (hpure e he).1)
      refine ⟨h3.defers, h3.tsize, h3.fr, h3.base, h3.i0, h3.inew, by rw [em]; exact h3.loc, h3.inj, fun t => ?_, by rw [em]; exact h3.ch, h3.ld, h3.gv⟩
      rw [em]
      by_cases hm : t ∈ dstsZ zf
      · have htd : t ∉ oj.dst.toList := not_disj c6 hm |> fun q hx => q (List.mem_append.2 (.inr hx))
        rcases selZ_in (D := X) zf esF 0 c4 hlF hm with q | q
        · rw [q, hs2m t hm]; exact .conc _ _ (.any _)
        · have e1 : lk .any (selS X (zf.map (·.2)) esF 0 s2b).tm t = lk .any (selS X (zf.map (·.2)) esF 0 s1).tm t := (q s2b s1).trans (q s1 s1).symm
          rw [e1]
          refine hval t htd ?_
          rw [q s1 s1, hs1F]
          exact clTs_mem c5 (List.mem_append.2 (.inr hm))
      · rw [selZ_not zf esF 0 s2b hm, hs2b t hm]
        by_cases hl : t ∈ looksZ ops.toList zf
        · rw [if_pos hl, hFn t hm, ← hσn t hm]
          refine hval t (not_disj c7 hl) ?_
          rw [hσn t hm, ← hFn t hm]
          exact clTs_mem c5 (List.mem_append.2 (.inl hl))
        · rw [if_neg hl]; exact h3.tm t
    refine ix_run hP (ix := zf.map (·.1) ++ zb.map (·.1)) (l := zf.map (·.2) ++ zb.map (·.2)) (es := esF ++ esB) (s0 := s2b) (D0 := fun i => decide (i ≤ j)) (fun p => ?_) (by simp) ?_ (path_append _ _ _ _ _ _ hpZ hpB') hedge (fun p q i j' oi oj' ei ej hpq hi hj' hoi hoj' hei hej => ?_)
      (fun fuel lst E a w hsz hcm hcl hD2 h j2 hj2 hj2x => ?_) (fun lst E a w hall hD2 h => ?_) fuel _ E' _ w' (by simp [hsz]) (by have := toCome_set hsz hju'; omega) (fun i oi hoi hi e he hb => ?_) (fun i hi => ?_) (by rw [hτ]; exact hrel)
    · rcases Nat.lt_or_ge p zf.length with h4 | h4
      · rw [List.getElem?_append_left (by simpa using h4), List.getElem?_append_left (by simpa using h4)]
        exact lkZ zf zfo p
      · rw [List.getElem?_append_right (by simpa using h4), List.getElem?_append_right (by simpa using h4), List.length_map, List.length_map]
        exact lkZ zb zbo _
    · rw [List.nodup_append]
      exact ⟨zfn, zbn, fun x hx y hy e => hdis x hx (e ▸ hy)⟩
    · have lkE : ∀ (p i : Nat) e, (zf.map (·.1) ++ zb.map (·.1))[p]? = some i → (esF ++ esB)[p]? = some e → lkO (zipF zb esB (zipF zf esF (endF lo es1 []))) i = some e := fun p i e hi he => by
        rcases Nat.lt_or_ge p zf.length with h4 | h4
        · rw [List.getElem?_append_left (by simpa using h4)] at hi
          rw [List.getElem?_append_left (by omega)] at he
          rw [zipF_out (hdis i (List.mem_iff_getElem?.2 ⟨p, hi⟩))]
          exact zipF_in zfn hi he
        · rw [List.getElem?_append_right (by simpa using h4), List.length_map] at hi
          rw [List.getElem?_append_right (by omega), hlF] at he
          exact zipF_in zbn hi he
      have hpb := pairsB_get hpr p q i j' hpq hi hj'
      unfold pairB at hpb
      rw [Bool.or_eq_true] at hpb
      rcases hpb with h4 | h4
      · exact .inl h4
      · rw [lkE p i ei hi hei, lkE q j' ej hj' hej] at h4
        have hx : ∀ (p i : Nat) oi, (zf.map (·.1) ++ zb.map (·.1))[p]? = some i → (zf.map (·.2) ++ zb.map (·.2))[p]? = some oi → ops.toList[i]? = some oi := fun p i oi hi hoi => by
          rcases Nat.lt_or_ge p zf.length with h4 | h4
          · rw [List.getElem?_append_left (by simpa using h4)] at hi
            rw [List.getElem?_append_left (by simpa using h4), lkZ zf zfo, hi, Option.bind_some] at hoi
            exact hoi
          · rw [List.getElem?_append_right (by simpa using h4), List.length_map] at hi
            rw [List.getElem?_append_right (by simpa using h4), List.length_map, lkZ zb zbo, hi, Option.bind_some] at hoi
            exact hoi
        rw [hx p i oi hi hoi, hx q j' oj' hj' hoj'] at h4
        exact .inr h4
    · obtain ⟨hju2, oj2, hoj2, _⟩ := mem_ready.1 hj2
      have hlt2 : j2 < ops.size := (Array.getElem?_eq_some_iff.1 hoj2).1
      exfalso
      rcases Nat.lt_or_ge j j2 with h4 | h4
      · rcases zall j2 h4 hlt2 with h5 | h5
        · exact hj2x (List.mem_append.2 (.inl h5))
        · exact hj2x (List.mem_append.2 (.inr h5))
      · have := hD2 j2 hj2x
        rw [decide_eq_true h4, Array.getD_eq_getD_getElem?, Array.getElem?_eq_getElem (by omega)] at this
        rw [Array.getD_eq_getD_getElem?, Array.getElem?_eq_getElem (by omega)] at hju2
        simp at this hju2
        rw [this] at hju2; cases hju2
    · rw [endS_app _ _ _ _ _ (by simpa using hlF)] at h
      obtain ⟨e1, e2⟩ := endS_congr (zb.map (·.2)) esB s2 _ hend.1 hend.2
      exact hR E _ a w (h.congr (fun t => (e1 t).symm) (fun k => (e2 k).symm)) hk
    · by_cases hij : i = j
      · subst hij
        rw [ho] at hoi
        cases hoi
        exact getD_set_true (hready e he hb)
      · simp only [hset i hij] at hi
        exact getD_set_true (hcl i oi hoi hi e he hb)
    · rw [List.mem_append, not_or] at hi
      rcases Nat.lt_trichotomy i j with h4 | h4 | h4
      · rw [hset i (by omega), decide_eq_true (by omega)]
        rcases Nat.lt_or_ge i lo with h5 | h5
        · rw [hD i (fun hm => by
            rcases List.mem_append.1 hm with h6 | h6
            · have := List.mem_range'_1.1 h6; omega
            · have := (zfc _ h6).1; omega)]
          exact decide_eq_true h5
        · have := hdone (i - lo) (by omega)
          rwa [show lo + (i - lo) = i by omega] at this
      · subst h4; rw [hsetj, decide_eq_true (Nat.le_refl _)]
      · rw [decide_eq_false (by omega)]
        rcases Nat.lt_or_ge i ops.size with h5 | h5
        · rcases zall i h4 h5 with h6 | h6
          · exact (hi.1 h6).elim
          · exact (hi.2 h6).elim
        · rw [Array.getD_eq_getD_getElem?, Array.getElem?_eq_none (by simp; omega)]; rfl
  · have hcx : c ∉ List.range' lo l1.length ++ zf.map (·.1) := fun hm => by
      rcases List.mem_append.1 hm with h1 | h1
      · have := List.mem_range'_1.1 h1; omega
      · have := (zfc _ h1).1; omega
    have := hD c hcx
    rw [hall c hclt, decide_eq_false (by omega)] at this
    cases this
  · rw [List.mem_append, not_or] at hi
    rcases Nat.lt_or_ge i lo with h4 | h4
    · rw [decide_eq_true h4]; exact hA i h4
    · rw [decide_eq_false (by omega)]; exact hB i h4

theorem drawn_run (hP : CxOk P cx) {ops : Array Oper} {id : Nat} {K : St → Prop} (hR : ∀ E s a w, Rel P cx.nt B M I0 G w0 E s a w → K s → Q .normal a w) (hedge : ∀ i o, ops.toList[i]? = some o → edgesOk o i = true) :
    ∀ (r : List Oper) (lo : Nat) (l1 : List Oper) (es1 : List Eff) (s0 : St), (∀ k, (l1 ++ r)[k]? = ops.toList[lo + k]?) → Path cx ops.toList l1 s0 es1 →
      wpRD cx id ops.toList (befN ops.toList []) K r lo (lo + l1.length) (endS l1 es1 s0) (endF lo es1 []) →
      ∀ (fuel : Nat) (listed : Array Bool) (E : Env) (a : Act) (w : World), listed.size = ops.size → toCome ops.size listed = fuel → Closed ops.toList (fun i => listed.getD i false) → (∀ i, i < lo → listed.getD i false = true) → (∀ i, lo ≤ i → listed.getD i false = false) →
        Rel P cx.nt B M I0 G w0 E s0 a w → lo ≤ ops.size → wpAny P .any ops Q fuel listed a w
  | [], lo, l1, es1, s0, hl, hp, hr, fuel, listed, E, a, w, hsz, hc, hcl, hA, hB, h, hlo => by
    have hlen := path_length ops.toList l1 s0 es1 hp
    have hsize : lo + l1.length = ops.size := by
      have h1 := hl l1.length
      rw [List.append_nil, List.getElem?_eq_none (Nat.le_refl _)] at h1
      have h2 : ops.size ≤ lo + l1.length := by have := List.getElem?_eq_none_iff.1 h1.symm; simpa using this
      rcases Nat.eq_zero_or_pos l1.length with h3 | h3
      · omega
      · have h4 := hl (l1.length - 1)
        rw [List.append_nil, List.getElem?_eq_getElem (by omega)] at h4
        have := (List.getElem?_eq_some_iff.1 h4.symm).1
        simp at this; omega
    unfold wpRD at hr
    have e0 : lo + l1.length - lo = l1.length := by omega
    rw [e0] at hr
    split at hr
    · rename_i hind
      refine seg_run hP (lo := lo) (hi := lo + l1.length) (l := l1) (es := es1) (s0 := s0) (by omega) (by omega) (by omega) (fun k hk => by have := hl k; rwa [List.append_nil] at this) hp hedge
        (indS_get hind rfl hlen (fun k hk => by have := hl k; rwa [List.append_nil] at this)) (fun j h1 h2 => by omega) (fun fuel listed E a w hsz hc hcl hA hB h => ?_) fuel listed E a w hsz hc hcl hA (fun i hi => hB i (by omega)) (h.congr (fun t => ?_) (fun c => ?_))
      · have hall : ∀ i, i < ops.size → listed.getD i false = true := fun i hi => hA i (by omega)
        have hnone : ∀ j, j ∈ Region.ready .any ops listed → False := fun j hj => by
          obtain ⟨h1, ox, hox, _⟩ := mem_ready.1 hj
          have hlt : j < ops.size := (Array.getElem?_eq_some_iff.1 hox).1
          have := hall j hlt
          rw [Array.getD_eq_getD_getElem?, Array.getElem?_eq_getElem (by omega)] at this h1
          simp at this h1
          rw [this] at h1; cases h1
        cases fuel with
        | zero => exact ⟨List.eq_nil_iff_forall_not_mem.2 (fun j hj => hnone j hj), hR _ _ _ _ h hr⟩
        | succ fuel => exact ⟨fun _ => hR _ _ _ _ h hr, fun j hj => (hnone j hj).elim⟩
      · rw [sel_tm (D' := fun _ => false) l1 es1 lo s0 s0 rfl (fun j o' _ _ => hB _ (by omega)), sel_none]
      · rw [sel_mem (D' := fun _ => false) l1 es1 lo s0 s0 rfl (fun j o' _ _ => hB _ (by omega)), sel_none]
    · exact hr.elim
  | o :: r, lo, l1, es1, s0, hl, hp, hr, fuel, listed, E, a, w, hsz, hc, hcl, hA, hB, h, hlo => by
    have hlen := path_length ops.toList l1 s0 es1 hp
    have ho : ops.toList[lo + l1.length]? = some o := by
      have := hl l1.length
      rw [List.getElem?_append_right (Nat.le_refl _), Nat.sub_self] at this
      simpa using this.symm
    have hlt : lo + l1.length < ops.size := by have := (List.getElem?_eq_some_iff.1 ho).1; simpa using this
    have hl' : ∀ k, ((l1 ++ [o]) ++ r)[k]? = ops.toList[lo + k]? := fun k => by rw [List.append_assoc]; exact hl k
    have go : ∀ e, dOk cx o.dst = true → Step cx ops.toList (endS l1 es1 s0) o e → wpRD cx id ops.toList (befN ops.toList []) K r lo (lo + l1.length + 1) (upd (endS l1 es1 s0) o.dst e.v e.ch) ((lo + l1.length, e) :: endF lo es1 []) → wpAny P .any ops Q fuel listed a w := fun e hd hs hk => by
      obtain ⟨q1, q2⟩ := path_app ops.toList l1 s0 es1 o e hp hd hs
      refine drawn_run (id := id) hP hR hedge r lo (l1 ++ [o]) (es1 ++ [e]) s0 hl' q1 ?_ fuel listed E a w hsz hc hcl hA hB h hlo
      rw [q2, endF_app, hlen, List.length_append, List.length_singleton, ← Nat.add_assoc]
      exact hk
    unfold wpRD at hr
    split at hr
    · rename_i T as hin
      split at hr
      · rename_i hd hw
        have e0 : lo + l1.length - lo = l1.length := by omega
        rw [e0] at hr
        split at hr
        · rename_i hind hbar
          unfold barB at hbar
          rw [Bool.and_eq_true, List.all_eq_true, List.all_eq_true] at hbar
          obtain ⟨hb1, hb2⟩ := hbar
          have hla : ∀ k, k < l1.length → l1[k]? = ops.toList[lo + k]? := fun k hk => by
            have := hl k
            rwa [List.getElem?_append_left hk] at this
          have hbj : ∀ j, lo + l1.length < j → j < ops.size → ((befN ops.toList []).getD j 0).testBit (lo + l1.length) = true := fun j h1 h2 => by
            have := hb2 j (List.mem_range.2 (by simpa using h2))
            rw [Bool.or_eq_true] at this
            rcases this with h3 | h3
            · have := Nat.le_of_ble_eq_true h3; omega
            · exact h3
          refine seg_run hP (lo := lo) (hi := lo + l1.length) (l := l1) (es := es1) (s0 := s0) (by omega) (by omega) (by omega) (fun k hk => hla k (by omega)) hp hedge
            (indS_get hind rfl hlen hla) (fun j h1 h2 => ?_) (fun fuel listed E a w hsz hc hcl hA hB h => ?_) fuel listed E a w hsz hc hcl hA (fun i hi => hB i (by omega)) (h.congr (fun t => ?_) (fun c => ?_))
          · rcases Nat.lt_or_ge (lo + l1.length) j with h3 | h3
            · exact .inr ⟨h3, hbj j h3 h2⟩
            · refine .inl ⟨by omega, fun i h4 h5 => ?_⟩
              have := hb1 (i - lo) (List.mem_range.2 (by omega))
              have e1 : lo + (i - lo) = i := by omega
              rwa [e1] at this
          · have hcf := hB (lo + l1.length) (Nat.le_refl _)
            have hcr : (lo + l1.length) ∈ Region.ready .any ops listed := by
              rw [mem_ready]
              refine ⟨?_, o, by simpa using ho, fun e he hb => ?_⟩
              · rw [Array.getD_eq_getD_getElem?, Array.getElem?_eq_getElem (by omega)] at hcf ⊢
                simpa using hcf
              · have hed := hedge _ o ho
                unfold edgesOk at hed
                rw [List.all_eq_true] at hed
                have := hed e (by simpa using he)
                rw [hb] at this
                have hlt : e.on < lo + l1.length := by simpa [Nat.blt_eq] using this
                exact hA e.on hlt
            have honly : ∀ j, j ∈ Region.ready .any ops listed → j = lo + l1.length ∧ listed.getD j true = false := fun j hj => by
              obtain ⟨hju, oj, hoj, hdep⟩ := mem_ready.1 hj
              have hjlt : j < ops.size := (Array.getElem?_eq_some_iff.1 hoj).1
              have hjf : listed.getD j false = false := by
                rw [Array.getD_eq_getD_getElem?, Array.getElem?_eq_getElem (by omega)] at hju ⊢
                simpa using hju
              refine ⟨?_, hju⟩
              rcases Nat.lt_trichotomy j (lo + l1.length) with h1 | h1 | h1
              · rw [hA j h1] at hjf; cases hjf
              · exact h1
              · have hready : Ready oj (fun i => listed.getD i false) := fun e he hb => hdep e (by simpa using he) hb
                have := befN_bit hcl hedge ops.toList 0 [] (by simp) rfl (fun j o h => by omega) j oj (by simpa using hoj) hready _ (hbj j h1 hjlt)
                rw [hcf] at this; cases this
            have hju := (honly _ hcr).2
            have hset : ∀ k, k ≠ lo + l1.length → (listed.setIfInBounds (lo + l1.length) true).getD k false = listed.getD k false := fun k hk => getD_set_ne false (Ne.symm hk)
            have hsetj : (listed.setIfInBounds (lo + l1.length) true).getD (lo + l1.length) false = true := by simp [Array.getD_eq_getD_getElem?, hsz, hlt]
            cases fuel with
            | zero =>
              have := toCome_zero hsz hc _ hlt
              rw [hcf] at this; cases this
            | succ fuel =>
              refine ⟨fun hnone => (by rw [hnone] at hcr; cases hcr), fun j hj => ?_⟩
              obtain ⟨rfl, _⟩ := honly j hj
              unfold wpOp
              have ho' : ops[lo + l1.length]? = some o := by simpa using ho
              simp only [ho']
              rw [if_pos (wantB_run h hw)]
              refine .inl (inl_wp hP h (inlD_some hin) hd hr (fun E' s' a' w' h' hk => ?_))
              refine drawn_run (id := id) hP hR hedge r (lo + l1.length + 1) [] [] s' (fun k => ?_) rfl hk fuel _ E' a' w' (by simp [hsz]) (by have := toCome_set hsz hju; omega) (fun i oi hoi hi e he hb => ?_) (fun i hi => ?_) (fun i hi => by rw [hset i (by omega)]; exact hB i (by omega)) h' (by omega)
              · have := hl (l1.length + 1 + k)
                rw [List.getElem?_append_right (by omega), show l1.length + 1 + k - l1.length = k + 1 by omega, List.getElem?_cons_succ] at this
                rw [List.nil_append, this]
                congr 1; omega
              · by_cases hij : i = lo + l1.length
                · subst hij
                  rw [ho] at hoi
                  cases hoi
                  have hed := hedge _ o ho
                  unfold edgesOk at hed
                  rw [List.all_eq_true] at hed
                  have := hed e he
                  rw [hb] at this
                  have hlt : e.on < lo + l1.length := by simpa [Nat.blt_eq] using this
                  exact getD_set_true (hA e.on hlt)
                · simp only [hset i hij] at hi
                  exact getD_set_true (hcl i oi hoi hi e he hb)
              · by_cases hij : i = lo + l1.length
                · subst hij; exact hsetj
                · rw [hset i hij]; exact hA i (by omega)
          · rw [sel_tm (D' := fun _ => false) l1 es1 lo s0 s0 rfl (fun j o' _ _ => hB _ (by omega)), sel_none]
          · rw [sel_mem (D' := fun _ => false) l1 es1 lo s0 s0 rfl (fun j o' _ _ => hB _ (by omega)), sel_none]
        · exact float_run (id := id) hP hR hedge rfl hl hp (inlD_some hin) hd hw hr fuel listed E a w hsz hc hcl hA hB h
        · exact hr.elim
      · rename_i hd hw
        exact go ⟨none, .und, [], []⟩ hd (.inr ⟨hw, rfl, rfl, rfl⟩) hr
      · exact hr.elim
    · obtain ⟨es, hp', hk⟩ := wpR_path _ _ _ _ _ _ hr
      obtain ⟨e, es', rfl, hd, hs, hp''⟩ := hp'
      have : es' = [] := hp''
      subst this
      exact go e hd hs hk

theorem regionD_run (hP : CxOk P cx) {ops : Array Oper} {id : Nat} {K : St → Prop} (hR : ∀ E s a w, Rel P cx.nt B M I0 G w0 E s a w → K s → Q .normal a w) (h : Rel P cx.nt B M I0 G w0 E s a w) (he : edgB ops.toList = true) (hr : wpRD cx id ops.toList (befN ops.toList []) K ops.toList 0 0 s []) :
    (Code.region id ops true).wp P Q a w := by
  refine wp_region_any hP.mixed ?_
  have h0 : ∀ i, (Array.replicate ops.size false).getD i false = false := fun i => by
    simp only [Array.getD_eq_getD_getElem?, Array.getElem?_replicate]
    split <;> rfl
  have hc : ∀ n, toCome n (Array.replicate n false) = n := fun n => by
    unfold toCome
    rw [List.filter_eq_self.2 (fun i hi => by
      have := List.mem_range.1 hi
      simp [Array.getD_eq_getD_getElem?, this])]
    simp
  exact drawn_run (id := id) hP hR (edgB_get he) ops.toList 0 [] [] s (fun k => by rw [List.nil_append, Nat.zero_add]) rfl hr ops.size (Array.replicate ops.size false) E a _ (by simp) (hc ops.size) (fun i oi _ hi => by simp only [h0] at hi; cases hi) (fun i hi => by omega) (fun i _ => h0 i) h.drew (Nat.zero_le _)
end
end Go.Rx

