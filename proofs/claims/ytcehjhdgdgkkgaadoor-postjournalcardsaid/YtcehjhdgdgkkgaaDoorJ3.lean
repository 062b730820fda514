/- The framework, part 21a: calls that are gone through in place. -/
import Derived.Test.YtcehjhdgdgkkgaaDoorJ2
import Derived.Deep.LoopGhost
import Derived.ScopeJumps
import Derived.LoopN
import Derived.Laws.Sem
import Derived.ProofKit
import Derived.HandedShaped
import Derived.IntWalk
namespace Go.Rx
set_option linter.unusedSectionVars false
open Go.RowKit

theorem ghostR_lk (g : Nat) (tm : List (Nat × SV)) : ∀ (n k : Nat), lkO (ghostR g tm n) k = if g ≤ k ∧ k < g + n then (match lkO tm (k - g) with | some v => some (.gh v) | none => none) else none
  | 0, k => by rw [if_neg (by omega)]; rfl
  | n + 1, k => by
    have ih := ghostR_lk g tm n k
    unfold ghostR
    split
    · rename_i v hv
      rw [lkO_cons, ih]
      by_cases e : g + n = k
      · subst e
        rw [if_pos rfl, if_pos (by omega)]
        have : g + n - g = n := by omega
        rw [this, hv]
      · rw [if_neg e]
        by_cases h : g ≤ k ∧ k < g + n
        · rw [if_pos h, if_pos (by omega)]
        · rw [if_neg h, if_neg (by omega)]
    · rename_i hv
      rw [ih]
      by_cases h : g ≤ k ∧ k < g + n
      · rw [if_pos h, if_pos (by omega)]
      · rw [if_neg h]
        by_cases e : k = g + n
        · subst e
          rw [if_pos (by omega)]
          have : g + n - g = n := by omega
          rw [this, hv]
        · rw [if_neg (by omega)]

theorem inR_iff {g n k : Nat} : inR g n k = true ↔ g ≤ k ∧ k < g + n := by
  unfold inR
  rw [Bool.and_eq_true]
  constructor
  · rintro ⟨h1, h2⟩; exact ⟨Nat.le_of_ble_eq_true h1, by rw [Nat.blt_eq] at h2; exact h2⟩
  · rintro ⟨h1, h2⟩; exact ⟨Nat.ble_eq_true_of_le h1, by rw [Nat.blt_eq]; exact h2⟩

theorem noR_lk {g n : Nat} : ∀ {m : List (Nat × Chunk)}, noR g n m = true → ∀ k, g ≤ k ∧ k < g + n → lkO m k = none
  | [], _, k, _ => rfl
  | (k', c) :: r, h, k, hk => by
    unfold noR at h
    split at h
    · cases h
    · rename_i hr
      rw [lkO_cons, if_neg (fun e => by subst e; rw [inR_iff.2 hk] at hr; cases hr)]
      exact noR_lk h k hk

theorem dropR_lk (g n : Nat) : ∀ (m : List (Nat × Chunk)) (k : Nat), lkO (dropR g n m) k = if g ≤ k ∧ k < g + n then none else lkO m k
  | [], k => by simp [dropR, lkO]
  | (k', c) :: r, k => by
    unfold dropR
    split
    · rename_i hr
      rw [dropR_lk g n r k, lkO_cons]
      by_cases e : k' = k
      · subst e; rw [if_pos (inR_iff.1 hr), if_pos (inR_iff.1 hr)]
      · rw [if_neg e]
    · rename_i hr
      rw [lkO_cons, dropR_lk g n r k, lkO_cons]
      by_cases e : k' = k
      · subst e
        rw [if_pos rfl, if_neg (fun h => by rw [inR_iff.2 h] at hr; cases hr), if_pos rfl]
      · rw [if_neg e, if_neg e]

theorem dropR_none : ∀ (m : List (Nat × Chunk)), dropR 0 0 m = m
  | [] => rfl
  | (x, c) :: r => by
    unfold dropR
    have : inR 0 0 x = false := by
      cases h : inR 0 0 x with
      | false => rfl
      | true => have := inR_iff.1 h; omega
    rw [this, dropR_none r]
theorem dropK_eq (g n : Nat) : ∀ (m : List (Nat × Chunk)) (k : List (Nat × Chunk) → Prop), dropK g n m k = k (dropR g n m)
  | [], k => rfl
  | (x, c) :: r, k => by
    unfold dropK dropR
    cases inR g n x with
    | true => exact dropK_eq g n r k
    | false => exact dropK_eq g n r _
theorem appK_eq (b : List (Nat × Chunk)) : ∀ (a : List (Nat × Chunk)) (k : List (Nat × Chunk) → Prop), appK b a k = k (a ++ b)
  | [], k => by unfold appK; rw [dropK_eq, dropR_none]; rfl
  | x :: r, k => by unfold appK; rw [appK_eq b r]; rfl
theorem forceL_eq : ∀ (l : List (Nat × SV)) (k : List (Nat × SV) → Prop), forceL l k = k l
  | [], k => rfl
  | (x, c) :: r, k => by unfold forceL; rw [forceL_eq r]
theorem forceS_eq (s : St) (k : St → Prop) : forceS s k = k s := by unfold forceS; rw [forceL_eq, dropK_eq, dropR_none]

theorem restT_lk {g : Nat} {m : List (Nat × Chunk)} : ∀ {n : Nat} {tm : List (Nat × SV)}, restT g m n = some tm →
    (∀ t, t < n → (lkO m (g + t) = none ∧ lk .any tm t = .any) ∨ ∃ v, lkO m (g + t) = some (.gh v) ∧ lk .any tm t = v) ∧ ∀ t, n ≤ t → lk .any tm t = .any
  | 0, tm, h => by
    cases h
    exact ⟨fun t ht => by omega, fun t _ => rfl⟩
  | n + 1, tm, h => by
    unfold restT at h
    split at h
    · rename_i tm0 h0
      obtain ⟨h1, h2⟩ := restT_lk h0
      split at h
      · rename_i v hv
        cases h
        refine ⟨fun t ht => ?_, fun t ht => ?_⟩
        · by_cases e : n = t
          · subst e; exact .inr ⟨v, hv, by rw [lk_cons, if_pos rfl]⟩
          · rw [lk_cons, if_neg e]; exact h1 t (by omega)
        · rw [lk_cons, if_neg (by omega)]; exact h2 t (by omega)
      · rename_i hv
        cases h
        refine ⟨fun t ht => ?_, fun t ht => h2 t (by omega)⟩
        by_cases e : n = t
        · subst e; exact .inl ⟨hv, h2 n (Nat.le_refl _)⟩
        · exact h1 t (by omega)
      · cases h
    · cases h

theorem lk_lkO {tm : List (Nat × SV)} {t : Nat} : lk .any tm t = (match lkO tm t with | some v => v | none => .any) := by
  induction tm with
  | nil => rfl
  | cons x r ih =>
    obtain ⟨k, v⟩ := x
    rw [lk_cons, lkO_cons, ih]
    by_cases e : k = t <;> simp [e]

section
variable {cx : Cx} {P : Program} [Laid P] {B : Nat} {M I0 : Nat → Prop} {G : Nat → Value} {w0 : World} {E : Env} {s : St} {a : Act} {w : World} {o : Oper} {Q : Exit → Act → World → Prop}

/-- The slots are kept while the call runs. -/
theorem Rel.suspend (h : Rel P cx.nt B M I0 G w0 E s a w) {g : Nat} (hn : noR g cx.nt s.mem = true) :
    ∃ (G' : Nat → Value) (E' : Env), (∀ k, ¬ (g ≤ k ∧ k < g + cx.nt) → G' k = G k) ∧ (∀ t, t < cx.nt → G' (g + t) = a.tmps.getD t undef) ∧
      (∀ x v, CV E (lkO s.mem) w x v → CV E' (lkO (ghostR g s.tm cx.nt ++ s.mem)) w x v) ∧ Rel P 0 B M I0 G' w0 E' ⟨[], ghostR g s.tm cx.nt ++ s.mem⟩ ⟨#[], []⟩ w := by
  let G' : Nat → Value := fun k => if g ≤ k ∧ k < g + cx.nt then a.tmps.getD (k - g) undef else G k
  let E' : Env := { E with gv := G' }
  have hlk : ∀ k, ¬ (g ≤ k ∧ k < g + cx.nt) → lkO (ghostR g s.tm cx.nt ++ s.mem) k = lkO s.mem k := fun k hk => by
    rw [lkO_append, ghostR_lk, if_neg hk]
  have hin : ∀ k ch, lkO s.mem k = some ch → ¬ (g ≤ k ∧ k < g + cx.nt) := fun k ch hk hr => by
    rw [noR_lk hn k hr] at hk; cases hk
  have hm : ∀ x v, CV E (lkO s.mem) w x v → CV E' (lkO (ghostR g s.tm cx.nt ++ s.mem)) w x v := fun x v hx => by
    refine CV.mono (E := E) (m := lkO s.mem) (w := w) (fun _ h => h) (fun _ _ => rfl) (fun c t cs b h1 h2 => ?_) (hq_of fun c b h1 h2 => ?_) (fun c v h1 => ?_) hx
    · exact ⟨⟨t, cs, by rw [hlk c (hin c _ h1)]; exact h1⟩, h2⟩
    · have : ¬ (g ≤ c ∧ c < g + cx.nt) := by
        cases hc : lkO s.mem c with
        | none => exact (isPt_none h1 hc).elim
        | some ch => exact hin c ch hc
      exact ⟨hlk c this, h2⟩
    · have : ¬ (g ≤ c ∧ c < g + cx.nt) := by
        cases hc : lkO s.mem c with
        | none => rw [hc] at h1; simp [verOf] at h1
        | some ch => exact hin c ch hc
      exact ⟨v, by rw [hlk c this]; exact h1, Nat.le_refl _, fun _ => ⟨rfl, fun b hb => hb⟩⟩
  refine ⟨G', E', fun k hk => if_neg hk, fun t ht => ?_, hm, ⟨rfl, rfl, h.fr, h.base, h.i0, h.inew, fun c b hc => ?_, h.inj, fun t => ?_, fun c => ?_, h.ld, rfl⟩⟩
  · show (if g ≤ g + t ∧ g + t < g + cx.nt then _ else _) = _
    rw [if_pos (by omega)]
    have : g + t - g = t := by omega
    rw [this]
  · obtain ⟨q1, q2, q3⟩ := h.loc c b hc
    refine ⟨q1, q2, q3.imp id fun q0 => q0.imp id fun q => ⟨q.1, ?_⟩⟩
    dsimp only
    by_cases hr : g ≤ c ∧ c < g + cx.nt
    · rw [lkO_append, ghostR_lk, if_pos hr, noR_lk hn c hr]
      cases lkO s.tm (c - g) <;> rfl
    · rw [hlk c hr]; exact q.2
  · exact .conc _ _ (.any _)
  · dsimp only
    by_cases hr : g ≤ c ∧ c < g + cx.nt
    · rw [lkO_append, ghostR_lk, if_pos hr, noR_lk hn c hr]
      cases ht : lkO s.tm (c - g) with
      | none => trivial
      | some v =>
        have ht' := h.tm (c - g)
        rw [lk_lkO, ht] at ht'
        show CV E' _ w (if g ≤ c ∧ c < g + cx.nt then _ else _) v
        rw [if_pos hr]
        exact hm _ _ ht'
    · rw [hlk c hr]
      refine ChR.mono (E := E) (m := lkO s.mem) (w := w) (fun _ h => h) (fun _ _ => rfl) hm rfl rfl (fun _ _ => rfl) (h.ch c) ?_
      show (if g ≤ c ∧ c < g + cx.nt then _ else _) = _
      rw [if_neg hr, h.gv]

/-- They are there behind it. -/
theorem Rel.resume {nt : Nat} {G' : Nat → Value} {E' : Env} {m' : List (Nat × Chunk)} {w' : World} {g : Nat} (hts : a.tmps.size = nt) (hdf : a.defers = []) (h : Rel P 0 B M I0 G' w0 E' ⟨[], m'⟩ ⟨#[], []⟩ w') (h1 : ∀ k, ¬ (g ≤ k ∧ k < g + nt) → G' k = G k) (h2 : ∀ t, t < nt → G' (g + t) = a.tmps.getD t undef)
    {tm : List (Nat × SV)} (hr : restT g m' nt = some tm) {x : Value} {r : SV} (hx : CV E' (lkO m') w' x r) {d : Option Nat} (hd : ∀ k, d = some k → k < nt) :
    ∃ E'', Rel P nt B M I0 G w0 E'' ⟨putT d r tm, dropR g nt m'⟩ (a.put d x) w' := by
  obtain ⟨r1, r2⟩ := restT_lk hr
  let E'' : Env := { E' with gv := G }
  have hlk : ∀ k ch, lkO m' k = some ch → (∀ v, ch ≠ .gh v) → ¬ (g ≤ k ∧ k < g + nt) := fun k ch hk hg hR => by
    have e : g + (k - g) = k := by omega
    rcases r1 (k - g) (by omega) with ⟨q, _⟩ | ⟨v, q, _⟩
    · rw [e, hk] at q; cases q
    · rw [e, hk] at q; cases q; exact hg v rfl
  have hm : ∀ x v, CV E' (lkO m') w' x v → CV E'' (lkO (dropR g nt m')) w' x v := fun x v hx => by
    refine CV.mono (E := E') (m := lkO m') (w := w') (fun _ h => h) (fun _ _ => rfl) (fun c t cs b e1 e2 => ?_) (hq_of fun c b e1 e2 => ?_) (fun c v e1 => ?_) hx
    · exact ⟨⟨t, cs, by rw [dropR_lk, if_neg (hlk c _ e1 (fun v h => by cases h))]; exact e1⟩, e2⟩
    · have : ¬ (g ≤ c ∧ c < g + nt) := by
        cases hc : lkO m' c with
        | none => exact (isPt_none e1 hc).elim
        | some ch => exact hlk c ch hc (fun v h => by subst h; exact isPt_gh e1 hc)
      exact ⟨by rw [dropR_lk, if_neg this], e2⟩
    · have : ¬ (g ≤ c ∧ c < g + nt) := by
        cases hc : lkO m' c with
        | none => rw [hc] at e1; simp [verOf] at e1
        | some ch => exact hlk c ch hc (fun v h => by subst h; rw [hc] at e1; simp [verOf] at e1)
      exact ⟨v, by rw [dropR_lk, if_neg this]; exact e1, Nat.le_refl _, fun _ => ⟨rfl, fun b hb => hb⟩⟩
  have htm : ∀ t, CV E'' (lkO (dropR g nt m')) w' (a.tmps.getD t undef) (lk .any tm t) := fun t => by
    by_cases ht : t < nt
    · rcases r1 t ht with ⟨_, q⟩ | ⟨v, q1, q2⟩
      · rw [q]; exact .conc _ _ (.any _)
      · rw [q2, ← h2 t ht]
        have := h.ch (g + t)
        dsimp only at this
        rw [q1] at this
        have this : CV E' (lkO m') w' (E'.gv (g + t)) v := this
        rw [h.gv] at this
        exact hm _ _ this
    · rw [r2 t (by omega)]; exact .conc _ _ (.any _)
  refine ⟨E'', by rw [put_defers']; exact hdf, by rw [put_size]; exact hts, h.fr, h.base, h.i0, h.inew, fun c b hc => ?_, h.inj, fun t => ?_, fun c => ?_, h.ld, rfl⟩
  · obtain ⟨q1, q2, q3⟩ := h.loc c b hc
    refine ⟨q1, q2, q3.imp id fun q0 => q0.imp id fun q => ⟨q.1, ?_⟩⟩
    dsimp only
    rw [dropR_lk]
    split
    · rfl
    · exact q.2
  · cases d with
    | none => exact htm t
    | some k =>
      have hk : k < a.tmps.size := by rw [hts]; exact hd k rfl
      rw [put_getD hk]
      show CV E'' _ w' _ (lk .any ((k, r) :: tm) t)
      rw [lk_cons]
      by_cases e : k = t
      · rw [if_pos e, if_pos e]; exact hm _ _ hx
      · rw [if_neg e, if_neg e]; exact htm t
  · dsimp only
    rw [dropR_lk]
    split
    · trivial
    · rename_i hR
      refine ChR.mono (E := E') (m := lkO m') (w := w') (fun _ h => h) (fun _ _ => rfl) hm rfl rfl (fun _ _ => rfl) (h.ch c) ?_
      show G c = E'.gv c
      rw [h.gv, h1 c hR]

theorem inlOf_some {gg : Operand → SV} {T : Tr} {as : List SV} (h : inlOf cx gg o = some (T, as)) : (∃ c f fn caps, o.op = .call c ∧ c.callee = .value f ∧ gg f = .fn fn caps ∧ lkO cx.inl fn = some T ∧ as = (c.args.toList.map gg) ++ caps) ∨
    ∃ it c, o.op = .next it false ∧ gg it = .itp c ∧ T = nextT ∧ as = [.itp c] := by
  unfold inlOf at h
  split at h
  · rename_i c ho
    split at h
    · rename_i f hf
      split at h
      · rename_i fn caps hg
        split at h
        · rename_i T' hT
          simp only [Option.some.injEq, Prod.mk.injEq] at h
          obtain ⟨rfl, rfl⟩ := h
          exact .inl ⟨c, f, fn, caps, ho, hf, hg, hT, rfl⟩
        · cases h
      · cases h
    · cases h
  · rename_i it ho
    split at h
    · rename_i c hc
      simp only [Option.some.injEq, Prod.mk.injEq] at h
      obtain ⟨rfl, rfl⟩ := h
      exact .inr ⟨it, c, ho, hc, rfl, rfl⟩
    · cases h
  · cases h

theorem inl_wp2 (hP : CxOk P cx) (h : Rel P cx.nt B M I0 G w0 E s a w) {T : Tr} {as : List SV} (hi : inlOf cx (ev s.tm) o = some (T, as)) (hd : dOk cx o.dst = true) {g : Nat} {R : St → Prop} {K : Act → World → Prop}
    (hw : inlAt cx.nt s o.dst T as g R) (hK : ∀ E' s' x w', Rel P cx.nt B M I0 G w0 E' s' (a.put o.dst x) w' → R s' → K (a.put o.dst x) w') : Oper.wp P o a w K Q := by
  rcases inlOf_some hi with ⟨c, f, fn, caps, ho, hc, hv, hT, rfl⟩ | ⟨it, c, ho, hv, rfl, rfl⟩
  rotate_left
  · unfold inlAt at hw
    rw [forceD_eq] at hw
    split at hw
    · rename_i hn
      rw [appK_eq] at hw
      obtain ⟨G', E', g1, g2, hm, hs⟩ := h.suspend hn
      have hf := hm _ _ (h.eval it)
      rw [hv] at hf
      obtain ⟨b, e1, e2, e3⟩ := hf.inv_itp
      obtain ⟨x, w', r, m', n1, n2, n3, n4⟩ := next_run (s := ⟨[], ghostR g s.tm cx.nt ++ s.mem⟩) hs e3 e2 hw o.type
      have hrun : (execOp a.eval o).run P w = .ok (.value x) w' := by
        simp [execOp, ho, e1, n1, Result.andThen]
      unfold Oper.wp
      rw [hrun]
      unfold behind at n4
      rw [forceM_eq] at n4
      split at n4
      · rename_i tm hr
        rw [dropK_eq] at n4
        obtain ⟨E3, hrel⟩ := Rel.resume (G := G) (a := a) (d := o.dst) h.tsize h.defers n2 g1 g2 hr n3 (dOk_lt hd)
        exact hK E3 _ _ _ hrel n4
      · exact n4.elim
    · exact hw.elim
  unfold inlAt at hw
  rw [forceD_eq] at hw
  split at hw
  · rename_i hn
    rw [appK_eq] at hw
    obtain ⟨G', E', g1, g2, hm, hs⟩ := h.suspend hn
    obtain ⟨fnd, hf1, hf2, hf3⟩ := hP.ib fn T hT
    have hf := h.eval f
    rw [hv] at hf
    obtain ⟨xs, e1, e2, e3⟩ := hf.inv_fn
    have hval : ∀ i, CV E (lkO s.mem) w (((c.args.toList.map a.eval) ++ xs.toList).getD i undef) (((c.args.toList.map (ev s.tm)) ++ caps).getD i .any) :=
      append_cv (by simp) (argsEval _ _ _ h.eval) (fun i => by simpa [List.getD_eq_getElem?_getD, Array.getD_eq_getD_getElem?] using e3 i)
    have hcall := hP.inl fn T hT (g + 1000) B M I0 G' w0 E' _ w _ ((c.args.map a.eval) ++ xs) _ hs (by simp; omega) (fun i => by
      have := hm _ _ (hval i)
      have e4 : ((c.args.map a.eval) ++ xs).getD i undef = ((c.args.toList.map a.eval) ++ xs.toList).getD i undef := by
        rw [Array.getD_eq_getD_getElem?, List.getD_eq_getElem?_getD, ← Array.getElem?_toList, Array.toList_append, Array.toList_map]
      rw [e4]; exact this) hw
    have hrun : (execOp a.eval o).run P w = .ok (.enter fn ((c.args.map a.eval) ++ xs)) w := by
      simp only [execOp, ho, _root_.Go.resolve, hc, Sem.run_bind, e1, Deferred.ofValue, Sem.run_pure, Result.andThen_ok, invoke, callFunc, run_program, hf1, hf3, hf2, Bool.false_eq_true, if_false, Array.empty_append]
    unfold Oper.wp
    rw [hrun]
    refine hcall.mono ?_
    rintro ed w' ⟨x, r, m', E2, rfl, q1, q2, q3⟩
    unfold behind at q3
    rw [forceM_eq] at q3
    split at q3
    · rename_i tm hr
      rw [dropK_eq] at q3
      obtain ⟨E3, hrel⟩ := Rel.resume (G := G) (a := a) (d := o.dst) h.tsize h.defers q1 g1 g2 hr q2 (dOk_lt hd)
      exact hK E3 _ _ _ hrel q3
    · exact q3.elim
  · exact hw.elim

theorem inl_wp (hP : CxOk P cx) (h : Rel P cx.nt B M I0 G w0 E s a w) {T : Tr} {as : List SV} (hi : inlOf cx (ev s.tm) o = some (T, as)) (hd : dOk cx o.dst = true) {g : Nat} {R : St → Prop} {K : Act → World → Prop}
    (hw : inlAt cx.nt s o.dst T as g R) (hK : ∀ E' s' a' w', Rel P cx.nt B M I0 G w0 E' s' a' w' → R s' → K a' w') : Oper.wp P o a w K Q :=
  inl_wp2 hP h hi hd hw (fun E' s' x w' h' hr => hK E' s' _ w' h' hr)

theorem inlD_some {gg : Operand → SV} {x : Tr × List SV} (h : inlD cx gg o = some x) : inlOf cx gg o = some x := by
  unfold inlD at h
  repeat' split at h
  all_goals first | exact h | (cases h; done)

theorem inlOf_congr {g g' : Operand → SV} (h : ∀ x, x ∈ o.op.operands → g x = g' x) : inlOf cx g o = inlOf cx g' o := by
  unfold inlOf
  split
  · rename_i c ho
    rw [ho] at h
    split
    · rename_i f hf
      have e1 : g f = g' f := h f (by simp [Op.operands, Call.operands, hf])
      have e2 : c.args.toList.map g = c.args.toList.map g' := List.map_congr_left fun x hx => h x (by simp only [Op.operands, Call.operands]; simp; exact .inr (by simpa using hx))
      rw [e1, e2]
    · rfl
  · rename_i it ho
    rw [ho] at h
    have e1 : g it = g' it := h it (by simp [Op.operands])
    rw [e1]
  · rfl

/-! ### What a call leaves as it is -/
/-- The blocks that may be written. -/
def wrOf (E : Env) (m : List (Nat × Chunk)) : Nat → Prop := fun b => ∃ c, E.loc c = some b ∧ ¬ (roK c = true ∧ verOf (lkO m c) = none)
theorem Rel.wrM {nt : Nat} (h : Rel P nt B M I0 G w0 E s a w) {b : Nat} (hb : wrOf E s.mem b) : B ≤ b ∨ M b := by
  obtain ⟨c, hc, hr⟩ := hb
  rcases (h.loc c b hc).2.2 with q | q | q
  · exact .inl q
  · exact .inr q
  · exact (hr q).elim
theorem Rel.frOf {nt : Nat} (h : Rel P nt B M I0 G w0 E s a w) {w' : World} (hf : Fr w.heap.size (wrOf E s.mem) w w') : Fr B M w w' :=
  ⟨hf.os, hf.tape, hf.output, hf.size, fun k hk hM => hf.block k (Nat.lt_of_lt_of_le hk h.base) (fun q => by
    rcases h.wrM q with q | q
    · omega
    · exact hM q)⟩
theorem Rel.narrow {nt : Nat} (h : Rel P nt B M I0 G w0 E s a w) : Rel P nt w.heap.size (wrOf E s.mem) E.I G w E s a w := by
  refine ⟨h.defers, h.tsize, Fr.refl _ _ _, Nat.le_refl _, fun _ h => h, fun b hb => ⟨(h.inew b hb).1, .inl hb⟩, fun c b hc => ?_, h.inj, h.tm, h.ch, fun w' hf => h.ld w' (h.fr.trans (h.frOf hf)), h.gv⟩
  obtain ⟨q1, q2, q3⟩ := h.loc c b hc
  refine ⟨q1, q2, .inr ?_⟩
  by_cases hr : roK c = true ∧ verOf (lkO s.mem c) = none
  · exact .inr hr
  · exact .inl ⟨c, hc, hr⟩
theorem Rel.widen {nt nt' : Nat} {E' : Env} {s' : St} {a' : Act} {w' : World} (h : Rel P nt B M I0 G w0 E s a w) (h' : Rel P nt' w.heap.size (wrOf E s.mem) E.I G w E' s' a' w') :
    Rel P nt' B M I0 G w0 E' s' a' w' ∧ ∀ b, E.I b → E'.I b ∧ w'.heap[b]? = w.heap[b]? := by
  refine ⟨⟨h'.defers, h'.tsize, h.fr.trans (h.frOf h'.fr), Nat.le_trans h.base h'.fr.size, fun b hb => h'.i0 b (h.i0 b hb), fun b hb => ⟨(h'.inew b hb).1, ?_⟩, fun c b hc => ?_, h'.inj, h'.tm, h'.ch, h.ld, h'.gv⟩,
    fun b hb => ⟨h'.i0 b hb, h'.fr.block b (h.inew b hb).1 (fun ⟨c, hc, _⟩ => (h.loc c b hc).2.1 hb)⟩⟩
  · rcases (h'.inew b hb).2 with q | q | q
    · exact (h.inew b q).2
    · exact .inr (.inl (Nat.le_trans h.base q))
    · exact .inr (h.wrM q)
  · obtain ⟨q1, q2, q3⟩ := h'.loc c b hc
    refine ⟨q1, q2, ?_⟩
    rcases q3 with q | q | q
    · exact .inl (Nat.le_trans h.base q)
    · rcases h.wrM q with q | q
      · exact .inl q
      · exact .inr (.inl q)
    · exact .inr (.inr q)
/-- Less is told of the slots. -/
theorem Rel.less {nt : Nat} (h : Rel P nt B M I0 G w0 E s a w) {s' : St} (ht : ∀ t, lk .any s'.tm t = .any ∨ lk .any s'.tm t = lk .any s.tm t) (hm : ∀ c, lkO s'.mem c = lkO s.mem c) : Rel P nt B M I0 G w0 E s' a w := by
  have e : lkO s'.mem = lkO s.mem := funext hm
  refine ⟨h.defers, h.tsize, h.fr, h.base, h.i0, h.inew, by rw [e]; exact h.loc, h.inj, fun t => ?_, fun c => ?_, h.ld, h.gv⟩
  · rcases ht t with q | q
    · rw [q]; exact .conc _ _ (.any _)
    · rw [e, q]; exact h.tm t
  · rw [e]; exact h.ch c

/-- The operations, in the order of the text; calls gone through in place. -/
theorem opsI_run (hP : CxOk P cx) {ops : Array Oper} {id : Nat} {K : St → Prop} (hR : ∀ E s a w, Rel P cx.nt B M I0 G w0 E s a w → K s → Q .normal a w) :
    ∀ (l : List Oper) (i : Nat) (E : Env) (s : St) (a : Act) (w : World), (∀ j, l[j]? = ops[i + j]?) → Rel P cx.nt B M I0 G w0 E s a w → wpRI cx id ops.toList K l i s → wpOps P ops Q (List.range' i l.length) a w
  | [], i, E, s, a, w, _, h, hr => by
    simp only [List.length_nil, List.range'_zero, wpOps]
    exact hR E s a w h hr
  | o :: r, i, E, s, a, w, hl, h, hr => by
    have hi : ops[i]? = some o := by simpa using (hl 0).symm
    have hl' : ∀ j, r[j]? = ops[i + 1 + j]? := fun j => by have := hl (j + 1); simpa [Nat.add_assoc, Nat.add_comm 1 j] using this
    simp only [List.length_cons, List.range'_succ, wpOps_cons]
    unfold wpRI at hr
    split at hr
    · rename_i T as hin
      split at hr
      · rename_i hd hw
        unfold wpOp
        simp only [hi]
        rw [if_pos (wantB_run h hw)]
        exact .inl (inl_wp hP h hin hd hr (fun E' s' a' w' h' hk => opsI_run hP hR r (i + 1) E' s' a' w' hl' h' hk))
      · rename_i hd hw
        refine op_step hP h hi hd (e := ⟨none, .und, [], []⟩) (.inr ⟨hw, rfl, rfl, rfl⟩) (fun E' a' w' h' => ?_)
        exact opsI_run hP hR r (i + 1) E' _ a' w' hl' h' hr
      · exact hr.elim
    · obtain ⟨es, hp, hk⟩ := wpR_path _ _ _ _ _ _ hr
      obtain ⟨e, es', rfl, hd, hs, hp'⟩ := hp
      have : es' = [] := hp'
      subst this
      refine op_step hP h hi hd hs (fun E' a' w' h' => ?_)
      exact opsI_run hP hR r (i + 1) E' _ a' w' hl' h' hk

theorem regionI_run (hP : CxOk P cx) {ops : Array Oper} {id : Nat} {K : St → Prop} (hR : ∀ E s a w, Rel P cx.nt B M I0 G w0 E s a w → K s → Q .normal a w) (h : Rel P cx.nt B M I0 G w0 E s a w) (hr : wpRI cx id ops.toList K ops.toList 0 s) :
    (Code.region id ops false).wp P Q a w := by
  refine wp_region ?_
  rw [List.range_eq_range', ← Array.length_toList]
  exact opsI_run hP hR ops.toList 0 E s a w (by simp) h hr

theorem sel_none : ∀ (l : List Oper) (es : List Eff) (i : Nat) (s : St), selS (fun _ => false) l es i s = s
  | [], es, i, s => by cases es <;> rfl
  | o :: r, [], i, s => rfl
  | o :: r, e :: es, i, s => by simp only [selS]; exact sel_none r es (i + 1) s

/-- May a segment's operations be carried out in whatever order they may? -/
theorem seg_run (hP : CxOk P cx) {ops : Array Oper} {lo hi : Nat} {l : List Oper} {es : List Eff} {s0 : St} (hlo : lo ≤ hi) (hhi : hi ≤ ops.size) (hll : l.length = hi - lo) (hl : ∀ k, k < hi - lo → l[k]? = ops.toList[lo + k]?)
    (hp : Path cx ops.toList l s0 es) (hedge : ∀ i o, ops.toList[i]? = some o → edgesOk o i = true)
    (hpair : ∀ i j oi oj ei ej, i < j → l[i]? = some oi → l[j]? = some oj → es[i]? = some ei → es[j]? = some ej → ((befN ops.toList []).getD (lo + j) 0).testBit (lo + i) = true ∨ apartE ops.toList oi oj ei ej = true)
    (hbar : ∀ j, hi ≤ j → j < ops.size → (j = hi ∧ ∀ i, lo ≤ i → i < hi → ((befN ops.toList []).getD hi 0).testBit i = true) ∨ (hi < j ∧ ((befN ops.toList []).getD j 0).testBit hi = true))
    (hend : ∀ (fuel : Nat) (listed : Array Bool) (E : Env) (a : Act) (w : World), listed.size = ops.size → toCome ops.size listed = fuel → Closed ops.toList (fun i => listed.getD i false) → (∀ i, i < hi → listed.getD i false = true) → (∀ i, hi ≤ i → listed.getD i false = false) →
      Rel P cx.nt B M I0 G w0 E (endS l es s0) a w → wpAny P .any ops Q fuel listed a w) :
    ∀ (fuel : Nat) (listed : Array Bool) (E : Env) (a : Act) (w : World), listed.size = ops.size → toCome ops.size listed = fuel → Closed ops.toList (fun i => listed.getD i false) → (∀ i, i < lo → listed.getD i false = true) → (∀ i, hi ≤ i → listed.getD i false = false) →
      Rel P cx.nt B M I0 G w0 E (selS (fun i => listed.getD i false) l es lo s0) a w → wpAny P .any ops Q fuel listed a w := by
  have hlen := path_length ops.toList l s0 es hp
  intro fuel
  have last : ∀ (listed : Array Bool), listed.size = ops.size → Region.ready .any ops listed = [] → ∀ i, i < ops.size → listed.getD i false = true := by
    intro listed hsz hnone i
    induction i using Nat.strongRecOn with
    | _ i ih =>
      intro hi
      cases hl : listed.getD i false with
      | true => rfl
      | false =>
        exfalso
        have : i ∈ Region.ready .any ops listed := by
          rw [mem_ready]
          have hoi : ops[i]? = some ops[i] := Array.getElem?_eq_getElem hi
          refine ⟨?_, ops[i], hoi, fun e he hb => ?_⟩
          · rw [Array.getD_eq_getD_getElem?, Array.getElem?_eq_getElem (by omega)] at hl ⊢
            simpa using hl
          · have hed := hedge i ops[i] (by simp)
            unfold edgesOk at hed
            rw [List.all_eq_true] at hed
            have := hed e (by simpa using he)
            rw [hb] at this
            have hlt : e.on < i := by simpa [Nat.blt_eq] using this
            exact ih e.on hlt (by omega)
        rw [hnone] at this
        cases this
  induction fuel with
  | zero =>
    intro listed E a w hsz hc hcl hA hB h
    have hall := toCome_zero hsz hc
    refine hend 0 listed E a w hsz hc hcl (fun i hi => hall i (by omega)) hB (h.congr (s' := endS l es s0) (fun t => ?_) (fun c => ?_))
    · rw [← sel_all l es lo s0]
      refine (sel_tm _ _ _ _ _ rfl (fun j o' hj _ => ?_))
      rw [hall (lo + j) (by have := (List.getElem?_eq_some_iff.1 hj).1; omega)]
    · rw [← sel_all l es lo s0]
      refine (sel_mem _ _ _ _ _ rfl (fun j e' hj _ => ?_))
      rw [hall (lo + j) (by have := (List.getElem?_eq_some_iff.1 hj).1; omega)]
  | succ fuel ih =>
    intro listed E a w hsz hc hcl hA hB h
    by_cases hall : ∀ i, i < hi → listed.getD i false = true
    · refine hend (fuel + 1) listed E a w hsz hc hcl hall hB (h.congr (s' := endS l es s0) (fun t => ?_) (fun c => ?_))
      · rw [← sel_all l es lo s0]
        refine (sel_tm _ _ _ _ _ rfl (fun j o' hj _ => ?_))
        rw [hall (lo + j) (by have := (List.getElem?_eq_some_iff.1 hj).1; omega)]
      · rw [← sel_all l es lo s0]
        refine (sel_mem _ _ _ _ _ rfl (fun j e' hj _ => ?_))
        rw [hall (lo + j) (by have := (List.getElem?_eq_some_iff.1 hj).1; omega)]
    refine ⟨fun hnone => absurd (fun i hi => last listed hsz hnone i (by omega)) hall, fun j hj => ?_⟩
    obtain ⟨hju, oj, hoj, hdep⟩ := mem_ready.1 hj
    have hjlt : j < ops.size := (Array.getElem?_eq_some_iff.1 hoj).1
    have hoj'' : ops.toList[j]? = some oj := by simpa using hoj
    have hjf : listed.getD j false = false := by
      rw [Array.getD_eq_getD_getElem?, Array.getElem?_eq_getElem (by omega)] at hju ⊢
      simpa using hju
    have hready : Ready oj (fun i => listed.getD i false) := fun e he hb => hdep e (by simpa using he) hb
    have hbef0 := fun i hi => befN_bit hcl hedge ops.toList 0 [] (by simp) rfl (fun j o h => by omega) j oj hoj'' hready i hi
    have hjlo : lo ≤ j := by
      rcases Nat.lt_or_ge j lo with h1 | h1
      · rw [hA j h1] at hjf; cases hjf
      · exact h1
    have hjhi : j < hi := by
      rcases Nat.lt_or_ge j hi with h1 | h1
      · exact h1
      · exfalso
        rcases hbar j h1 hjlt with ⟨rfl, h2⟩ | ⟨h2, h3⟩
        · refine hall (fun i hi => ?_)
          rcases Nat.lt_or_ge i lo with h3 | h3
          · exact hA i h3
          · exact hbef0 i (h2 i h3 hi)
        · have := hbef0 hi h3
          rw [hB hi (Nat.le_refl _)] at this
          cases this
    obtain ⟨jj, rfl⟩ : ∃ jj, j = lo + jj := ⟨j - lo, by omega⟩
    have hoj' : l[jj]? = some oj := by rw [hl jj (by omega)]; exact hoj''
    have hej : ∃ ej, es[jj]? = some ej := ⟨_, List.getElem?_eq_getElem (by rw [hlen, hll]; omega)⟩
    obtain ⟨ej, hej⟩ := hej
    have lget : ∀ k ok, l[k]? = some ok → ops.toList[lo + k]? = some ok := fun k ok hk => by
      have : k < hi - lo := by have := (List.getElem?_eq_some_iff.1 hk).1; omega
      rw [← hl k this]; exact hk
    -- what is done and what is behind
    have F3 : ∀ i oi ei, i < jj → l[i]? = some oi → es[i]? = some ei → listed.getD (lo + i) false = false → apartE ops.toList oi oj ei ej = true := by
      intro i oi ei hij hoi hei hli
      rcases hpair i jj oi oj ei ej hij hoi hoj' hei hej with h1 | h1
      · have := hbef0 (lo + i) h1
        simp only [hli] at this
        cases this
      · exact h1
    have F2 : ∀ i oi ei, jj < i → l[i]? = some oi → es[i]? = some ei → listed.getD (lo + i) false = true → apartE ops.toList oj oi ej ei = true := by
      intro i oi ei hij hoi hei hli
      rcases hpair jj i oj oi ej ei hij hoj' hoi hej hei with h1 | h1
      · have hri : Ready oi (fun i => listed.getD i false) := fun e he hb => hcl (lo + i) oi (lget i oi hoi) hli e he hb
        have := befN_bit hcl hedge ops.toList 0 [] (by simp) rfl (fun j o h => by omega) (lo + i) oi (lget i oi hoi) hri (lo + jj) h1
        simp only [hjf] at this
        cases this
      · exact h1
    have hget := path_get ops.toList l s0 es lo hp jj oj ej hoj' hej
    obtain ⟨hd, hstep⟩ := hget
    have exE : ∀ k ok, l[k]? = some ok → ∃ ek, es[k]? = some ek := fun k ok hk => ⟨_, List.getElem?_eq_getElem (by rw [hlen]; exact (List.getElem?_eq_some_iff.1 hk).1)⟩
    have exO : ∀ k ek, es[k]? = some ek → ∃ ok, l[k]? = some ok := fun k ek hk => ⟨_, List.getElem?_eq_getElem (by rw [← hlen]; exact (List.getElem?_eq_some_iff.1 hk).1)⟩
    have unA : ∀ {x y : Oper} {ex ey : Eff}, apartE ops.toList x y ex ey = true → disj x.dst.toList (y.dst.toList ++ looks ops.toList y) = true ∧ disj y.dst.toList (looks ops.toList x) = true ∧ disj (ex.ch.map (·.1)) (ey.ch.map (·.1) ++ ey.rd) = true ∧ disj (ey.ch.map (·.1)) ex.rd = true := by
      intro x y ex ey hh
      unfold apartE at hh
      simp only [Bool.and_eq_true] at hh
      exact ⟨hh.1.1.1, hh.1.1.2, hh.1.2, hh.2⟩
    have hstep' : Step cx ops.toList (selS (fun i => listed.getD i false) l es lo s0) oj ej := by
      refine hstep.move (fun t ht => ?_) (fun c hc => ?_)
      · refine sel_tm _ _ _ _ _ rfl (fun k ok hk hdk => ?_)
        obtain ⟨ek, hek⟩ := exE k ok hk
        rcases Nat.lt_trichotomy k jj with hkj | hkj | hkj
        · rw [decide_eq_true (by omega)]
          cases hlk : listed.getD (lo + k) false with
          | true => rfl
          | false =>
            have := (unA (F3 k ok ek hkj hk hek hlk)).1
            exact (disj_not this (x := t) (by rw [hdk]; simp) (List.mem_append.2 (.inr ht))).elim
        · subst hkj
          rw [decide_eq_false (by omega)]
          exact hjf
        · rw [decide_eq_false (by omega)]
          cases hlk : listed.getD (lo + k) false with
          | false => rfl
          | true =>
            have := (unA (F2 k ok ek hkj hk hek hlk)).2.1
            exact (disj_not this (x := t) (by rw [hdk]; simp) ht).elim
      · refine sel_mem _ _ _ _ _ rfl (fun k ek hek hck => ?_)
        obtain ⟨ok, hk⟩ := exO k ek hek
        rcases Nat.lt_trichotomy k jj with hkj | hkj | hkj
        · rw [decide_eq_true (by omega)]
          cases hlk : listed.getD (lo + k) false with
          | true => rfl
          | false =>
            have := (unA (F3 k ok ek hkj hk hek hlk)).2.2.1
            exact (disj_not this (x := c) (keys_of hck) (List.mem_append.2 (.inr hc))).elim
        · subst hkj
          rw [decide_eq_false (by omega)]
          exact hjf
        · rw [decide_eq_false (by omega)]
          cases hlk : listed.getD (lo + k) false with
          | false => rfl
          | true =>
            have := (unA (F2 k ok ek hkj hk hek hlk)).2.2.2
            exact (disj_not this (x := c) (keys_of hck) hc).elim
    refine op_step hP h hoj hd hstep' (fun E' a' w' h' => ?_)
    have hset : ∀ k, k ≠ lo + jj → (listed.setIfInBounds (lo + jj) true).getD k false = listed.getD k false := fun k hk => getD_set_ne false (Ne.symm hk)
    have hsetj : (listed.setIfInBounds (lo + jj) true).getD (lo + jj) false = true := by simp [Array.getD_eq_getD_getElem?, hsz, hjlt]
    refine ih (listed.setIfInBounds (lo + jj) true) E' a' w' (by simp [hsz]) (by have := toCome_set hsz hju; omega) (fun i oi hoi hi e he hb => ?_) (fun i hi => by rw [hset i (by omega)]; exact hA i hi) (fun i hi => by rw [hset i (by omega)]; exact hB i hi) (h'.congr (fun t => ?_) (fun c => ?_))
    · by_cases hij : i = lo + jj
      · subst hij
        rw [hoj''] at hoi
        cases hoi
        exact getD_set_true (hready e he hb)
      · simp only [hset i hij] at hi
        exact getD_set_true (hcl i oi hoi hi e he hb)
    · by_cases hdt : oj.dst = some t
      · rw [sel_tm_last l es lo s0 jj oj ej hoj' hej hdt hsetj (fun k ok hjk hk hdk => ?_)]
        · simp only [upd, hdt]; rw [lk_cons, if_pos rfl]
        · have hne : lo + k ≠ lo + jj := by omega
          simp only [hset (lo + k) hne]
          obtain ⟨ek, hek⟩ := exE k ok hk
          cases hlk : listed.getD (lo + k) false with
          | false => rfl
          | true =>
            have := (unA (F2 k ok ek hjk hk hek hlk)).1
            exact (disj_not this (x := t) (by rw [hdt]; simp) (List.mem_append.2 (.inl (by rw [hdk]; simp)))).elim
      · have e1 : lk .any (upd (selS (fun i => listed.getD i false) l es lo s0) oj.dst ej.v ej.ch).tm t = lk .any (selS (fun i => listed.getD i false) l es lo s0).tm t := by
          simp only [upd]
          cases hq : oj.dst with
          | none => rfl
          | some d => rw [lk_cons, if_neg (fun e => hdt (by rw [hq, e]))]
        rw [e1]
        refine sel_tm _ _ _ _ _ rfl (fun k ok hk hdk => ?_)
        have hne : lo + k ≠ lo + jj := fun e => by (obtain rfl : k = jj := by omega); rw [hoj'] at hk; cases hk; exact hdt hdk
        exact hset (lo + k) hne
    · cases hct : lkO ej.ch c with
      | some v =>
        rw [sel_mem_last l es lo s0 jj ej (by omega) hej hct hsetj (fun k ek hjk hek hck => ?_)]
        · simp only [upd]; rw [lkO_append, hct]
        · have hne : lo + k ≠ lo + jj := by omega
          simp only [hset (lo + k) hne]
          obtain ⟨ok, hk⟩ := exO k ek hek
          cases hlk : listed.getD (lo + k) false with
          | false => rfl
          | true =>
            have := (unA (F2 k ok ek hjk hk hek hlk)).2.2.1
            exact (disj_not this (x := c) (keys_of (by rw [hct]; simp)) (List.mem_append.2 (.inl (keys_of hck)))).elim
      | none =>
        have e1 : lkO (upd (selS (fun i => listed.getD i false) l es lo s0) oj.dst ej.v ej.ch).mem c = lkO (selS (fun i => listed.getD i false) l es lo s0).mem c := by
          simp only [upd]; rw [lkO_append, hct]
        rw [e1]
        refine sel_mem _ _ _ _ _ rfl (fun k ek hek hck => ?_)
        have hne : lo + k ≠ lo + jj := fun e => by (obtain rfl : k = jj := by omega); rw [hej] at hek; cases hek; exact hck hct
        exact hset (lo + k) hne

/-! ### Operations in whatever order, by their numbers -/
/-- Those of a row of numbers: in whatever order they may; others by the way. -/
theorem ix_run (hP : CxOk P cx) {ops : Array Oper} {ix : List Nat} {l : List Oper} {es : List Eff} {s0 : St} {D0 : Nat → Bool} (hl : ∀ p : Nat, l[p]? = (ix[p]?).bind fun i => ops.toList[i]?) (hll : l.length = ix.length) (hnd : ix.Nodup)
    (hp : Path cx ops.toList l s0 es) (hedge : ∀ i o, ops.toList[i]? = some o → edgesOk o i = true)
    (hpair : ∀ (p q i j : Nat) oi oj ei ej, p < q → ix[p]? = some i → ix[q]? = some j → l[p]? = some oi → l[q]? = some oj → es[p]? = some ei → es[q]? = some ej → ((befN ops.toList []).getD j 0).testBit i = true ∨ apartE ops.toList oi oj ei ej = true)
    (hout : ∀ (fuel : Nat) (listed : Array Bool) (E : Env) (a : Act) (w : World), listed.size = ops.size → toCome ops.size listed = fuel + 1 → Closed ops.toList (fun i => listed.getD i false) → (∀ i, i ∉ ix → listed.getD i false = D0 i) →
      Rel P cx.nt B M I0 G w0 E (selS (fun p => listed.getD (ix.getD p 0) false) l es 0 s0) a w → ∀ j, j ∈ Region.ready .any ops listed → j ∉ ix → wpOp P ops Q j (wpAny P .any ops Q fuel (listed.setIfInBounds j true)) a w)
    (hfin : ∀ (listed : Array Bool) (E : Env) (a : Act) (w : World), (∀ i, i < ops.size → listed.getD i false = true) → (∀ i, i ∉ ix → listed.getD i false = D0 i) →
      Rel P cx.nt B M I0 G w0 E (endS l es s0) a w → Q .normal a w) :
    ∀ (fuel : Nat) (listed : Array Bool) (E : Env) (a : Act) (w : World), listed.size = ops.size → toCome ops.size listed = fuel → Closed ops.toList (fun i => listed.getD i false) → (∀ i, i ∉ ix → listed.getD i false = D0 i) →
      Rel P cx.nt B M I0 G w0 E (selS (fun p => listed.getD (ix.getD p 0) false) l es 0 s0) a w → wpAny P .any ops Q fuel listed a w := by
  have hlen := path_length ops.toList l s0 es hp
  have ixlt : ∀ p i, ix[p]? = some i → i < ops.size ∧ p < ix.length := fun p i hi => by
    have hpl : p < ix.length := (List.getElem?_eq_some_iff.1 hi).1
    have h1 := hl p
    rw [hi, Option.bind_some, List.getElem?_eq_getElem (by omega)] at h1
    have := (List.getElem?_eq_some_iff.1 h1.symm).1
    exact ⟨by simpa using this, hpl⟩
  have ixD : ∀ p i, ix[p]? = some i → ix.getD p 0 = i := fun p i hi => by rw [List.getD_eq_getElem?_getD, hi]; rfl
  have inj : ∀ p q i, ix[p]? = some i → ix[q]? = some i → p = q := fun p q i h1 h2 => by
    have a1 := List.getElem?_eq_some_iff.1 h1
    have a2 := List.getElem?_eq_some_iff.1 h2
    obtain ⟨b1, c1⟩ := a1
    obtain ⟨b2, c2⟩ := a2
    have hne := List.pairwise_iff_getElem.1 hnd
    rcases Nat.lt_trichotomy p q with h | h | h
    · exact (hne p q b1 b2 h (c1.trans c2.symm)).elim
    · exact h
    · exact (hne q p b2 b1 h (c2.trans c1.symm)).elim
  have last : ∀ (listed : Array Bool), listed.size = ops.size → Region.ready .any ops listed = [] → ∀ i, i < ops.size → listed.getD i false = true := by
    intro listed hsz hnone i
    induction i using Nat.strongRecOn with
    | _ i ih =>
      intro hi
      cases hl : listed.getD i false with
      | true => rfl
      | false =>
        exfalso
        have : i ∈ Region.ready .any ops listed := by
          rw [mem_ready]
          have hoi : ops[i]? = some ops[i] := Array.getElem?_eq_getElem hi
          refine ⟨?_, ops[i], hoi, fun e he hb => ?_⟩
          · rw [Array.getD_eq_getD_getElem?, Array.getElem?_eq_getElem (by omega)] at hl ⊢
            simpa using hl
          · have hed := hedge i ops[i] (by simp)
            unfold edgesOk at hed
            rw [List.all_eq_true] at hed
            have := hed e (by simpa using he)
            rw [hb] at this
            have hlt : e.on < i := by simpa [Nat.blt_eq] using this
            exact ih e.on hlt (by omega)
        rw [hnone] at this
        cases this
  have fin : ∀ (listed : Array Bool) (E : Env) (a : Act) (w : World), (∀ i, i < ops.size → listed.getD i false = true) → (∀ i, i ∉ ix → listed.getD i false = D0 i) → Rel P cx.nt B M I0 G w0 E (selS (fun p => listed.getD (ix.getD p 0) false) l es 0 s0) a w → Q .normal a w := fun listed E a w hall hD h => by
    refine hfin listed E a w hall hD (h.congr (s' := endS l es s0) (fun t => ?_) (fun c => ?_))
    · rw [← sel_all l es 0 s0]
      refine (sel_tm _ _ _ _ _ rfl (fun j o' hj _ => ?_))
      rw [Nat.zero_add]
      have hjl : j < ix.length := by have := (List.getElem?_eq_some_iff.1 hj).1; omega
      have hj2 : ix[j]? = some ix[j] := List.getElem?_eq_getElem hjl
      rw [ixD j _ hj2, hall _ (ixlt j _ hj2).1]
    · rw [← sel_all l es 0 s0]
      refine (sel_mem _ _ _ _ _ rfl (fun j e' hj _ => ?_))
      rw [Nat.zero_add]
      have hjl : j < ix.length := by have := (List.getElem?_eq_some_iff.1 hj).1; omega
      have hj2 : ix[j]? = some ix[j] := List.getElem?_eq_getElem hjl
      rw [ixD j _ hj2, hall _ (ixlt j _ hj2).1]
  intro fuel
  induction fuel with
  | zero =>
    intro listed E a w hsz hc hcl hD h
    have hall := toCome_zero hsz hc
    refine ⟨?_, fin listed E a w hall hD h⟩
    cases hrd : Region.ready .any ops listed with
    | nil => rfl
    | cons x r =>
      have hx : x ∈ Region.ready .any ops listed := by rw [hrd]; exact List.mem_cons_self ..
      obtain ⟨h1, ox, hox, _⟩ := mem_ready.1 hx
      have hlt : x < ops.size := (Array.getElem?_eq_some_iff.1 hox).1
      have := hall x hlt
      rw [Array.getD_eq_getD_getElem?, Array.getElem?_eq_getElem (by omega)] at this h1
      simp at this h1
      rw [this] at h1
      cases h1
  | succ fuel ih =>
    intro listed E a w hsz hc hcl hD h
    refine ⟨fun hnone => fin listed E a w (last listed hsz hnone) hD h, fun j hj => ?_⟩
    by_cases hjx : j ∈ ix
    rotate_left
    · exact hout fuel listed E a w hsz hc hcl hD h j hj hjx
    obtain ⟨hju, oj, hoj, hdep⟩ := mem_ready.1 hj
    have hjlt : j < ops.size := (Array.getElem?_eq_some_iff.1 hoj).1
    have hoj'' : ops.toList[j]? = some oj := by simpa using hoj
    have hjf : listed.getD j false = false := by
      rw [Array.getD_eq_getD_getElem?, Array.getElem?_eq_getElem (by omega)] at hju ⊢
      simpa using hju
    have hready : Ready oj (fun i => listed.getD i false) := fun e he hb => hdep e (by simpa using he) hb
    have hbef0 := fun i hi => befN_bit hcl hedge ops.toList 0 [] (by simp) rfl (fun j o h => by omega) j oj hoj'' hready i hi
    obtain ⟨jj, hjj⟩ := List.mem_iff_getElem?.1 hjx
    have hjjl := (ixlt jj j hjj).2
    have hoj' : l[jj]? = some oj := by rw [hl jj, hjj, Option.bind_some]; exact hoj''
    have hej : ∃ ej, es[jj]? = some ej := ⟨_, List.getElem?_eq_getElem (by rw [hlen, hll]; exact hjjl)⟩
    obtain ⟨ej, hej⟩ := hej
    have getI : ∀ k ok, l[k]? = some ok → ∃ i, ix[k]? = some i ∧ ops.toList[i]? = some ok ∧ ix.getD k 0 = i := fun k ok hk => by
      have hkl : k < ix.length := by have := (List.getElem?_eq_some_iff.1 hk).1; omega
      have h1 : ix[k]? = some ix[k] := List.getElem?_eq_getElem hkl
      refine ⟨_, h1, ?_, ixD k _ h1⟩
      have := hl k
      rw [h1, Option.bind_some, hk] at this
      exact this.symm
    -- what is done and what is behind
    have F3 : ∀ p oi ei, p < jj → l[p]? = some oi → es[p]? = some ei → listed.getD (ix.getD p 0) false = false → apartE ops.toList oi oj ei ej = true := by
      intro p oi ei hij hoi hei hli
      obtain ⟨i, i1, i2, i3⟩ := getI p oi hoi
      rw [i3] at hli
      rcases hpair p jj i j oi oj ei ej hij i1 hjj hoi hoj' hei hej with h1 | h1
      · have := hbef0 i h1
        simp only [hli] at this
        cases this
      · exact h1
    have F2 : ∀ p oi ei, jj < p → l[p]? = some oi → es[p]? = some ei → listed.getD (ix.getD p 0) false = true → apartE ops.toList oj oi ej ei = true := by
      intro p oi ei hij hoi hei hli
      obtain ⟨i, i1, i2, i3⟩ := getI p oi hoi
      rw [i3] at hli
      rcases hpair jj p j i oj oi ej ei hij hjj i1 hoj' hoi hej hei with h1 | h1
      · have hri : Ready oi (fun i => listed.getD i false) := fun e he hb => hcl i oi i2 hli e he hb
        have := befN_bit hcl hedge ops.toList 0 [] (by simp) rfl (fun j o h => by omega) i oi i2 hri j h1
        simp only [hjf] at this
        cases this
      · exact h1
    have hget := path_get ops.toList l s0 es 0 hp jj oj ej hoj' hej
    rw [Nat.zero_add] at hget
    obtain ⟨hd, hstep⟩ := hget
    have exE : ∀ k ok, l[k]? = some ok → ∃ ek, es[k]? = some ek := fun k ok hk => ⟨_, List.getElem?_eq_getElem (by rw [hlen]; exact (List.getElem?_eq_some_iff.1 hk).1)⟩
    have exO : ∀ k ek, es[k]? = some ek → ∃ ok, l[k]? = some ok := fun k ek hk => ⟨_, List.getElem?_eq_getElem (by rw [← hlen]; exact (List.getElem?_eq_some_iff.1 hk).1)⟩
    have unA : ∀ {x y : Oper} {ex ey : Eff}, apartE ops.toList x y ex ey = true → disj x.dst.toList (y.dst.toList ++ looks ops.toList y) = true ∧ disj y.dst.toList (looks ops.toList x) = true ∧ disj (ex.ch.map (·.1)) (ey.ch.map (·.1) ++ ey.rd) = true ∧ disj (ey.ch.map (·.1)) ex.rd = true := by
      intro x y ex ey hh
      unfold apartE at hh
      simp only [Bool.and_eq_true] at hh
      exact ⟨hh.1.1.1, hh.1.1.2, hh.1.2, hh.2⟩
    have hjD : ix.getD jj 0 = j := ixD jj j hjj
    have hstep' : Step cx ops.toList (selS (fun p => listed.getD (ix.getD p 0) false) l es 0 s0) oj ej := by
      refine hstep.move (fun t ht => ?_) (fun c hc => ?_)
      · refine sel_tm _ _ _ _ _ rfl (fun k ok hk hdk => ?_)
        rw [Nat.zero_add]
        obtain ⟨ek, hek⟩ := exE k ok hk
        rcases Nat.lt_trichotomy k jj with hkj | hkj | hkj
        · rw [decide_eq_true hkj]
          cases hlk : listed.getD (ix.getD k 0) false with
          | true => rfl
          | false =>
            have := (unA (F3 k ok ek hkj hk hek hlk)).1
            exact (disj_not this (x := t) (by rw [hdk]; simp) (List.mem_append.2 (.inr ht))).elim
        · subst hkj
          rw [decide_eq_false (by omega), hjD]
          exact hjf
        · rw [decide_eq_false (by omega)]
          cases hlk : listed.getD (ix.getD k 0) false with
          | false => rfl
          | true =>
            have := (unA (F2 k ok ek hkj hk hek hlk)).2.1
            exact (disj_not this (x := t) (by rw [hdk]; simp) ht).elim
      · refine sel_mem _ _ _ _ _ rfl (fun k ek hek hck => ?_)
        rw [Nat.zero_add]
        obtain ⟨ok, hk⟩ := exO k ek hek
        rcases Nat.lt_trichotomy k jj with hkj | hkj | hkj
        · rw [decide_eq_true hkj]
          cases hlk : listed.getD (ix.getD k 0) false with
          | true => rfl
          | false =>
            have := (unA (F3 k ok ek hkj hk hek hlk)).2.2.1
            exact (disj_not this (x := c) (keys_of hck) (List.mem_append.2 (.inr hc))).elim
        · subst hkj
          rw [decide_eq_false (by omega), hjD]
          exact hjf
        · rw [decide_eq_false (by omega)]
          cases hlk : listed.getD (ix.getD k 0) false with
          | false => rfl
          | true =>
            have := (unA (F2 k ok ek hkj hk hek hlk)).2.2.2
            exact (disj_not this (x := c) (keys_of hck) hc).elim
    refine op_step hP h hoj hd hstep' (fun E' a' w' h' => ?_)
    have hset : ∀ k, k ≠ j → (listed.setIfInBounds j true).getD k false = listed.getD k false := fun k hk => getD_set_ne false (Ne.symm hk)
    have hsetj : (listed.setIfInBounds j true).getD j false = true := by simp [Array.getD_eq_getD_getElem?, hsz, hjlt]
    have hsetp : ∀ k ok, l[k]? = some ok → k ≠ jj → (listed.setIfInBounds j true).getD (ix.getD k 0) false = listed.getD (ix.getD k 0) false := fun k ok hk hne => by
      obtain ⟨i, i1, i2, i3⟩ := getI k ok hk
      rw [i3]
      exact hset i (fun e => hne (inj k jj j (e ▸ i1) hjj))
    refine ih (listed.setIfInBounds j true) E' a' w' (by simp [hsz]) (by have := toCome_set hsz hju; omega) (fun i oi hoi hi e he hb => ?_) (fun i hi => by rw [hset i (fun e => hi (e ▸ hjx))]; exact hD i hi) (h'.congr (fun t => ?_) (fun c => ?_))
    · by_cases hij : i = j
      · subst hij
        rw [hoj''] at hoi
        cases hoi
        exact getD_set_true (hready e he hb)
      · simp only [hset i hij] at hi
        exact getD_set_true (hcl i oi hoi hi e he hb)
    · by_cases hdt : oj.dst = some t
      · rw [sel_tm_last l es 0 s0 jj oj ej hoj' hej hdt (by rw [Nat.zero_add, hjD]; exact hsetj) (fun k ok hjk hk hdk => ?_)]
        · simp only [upd, hdt]; rw [lk_cons, if_pos rfl]
        · rw [Nat.zero_add, hsetp k ok hk (by omega)]
          obtain ⟨ek, hek⟩ := exE k ok hk
          cases hlk : listed.getD (ix.getD k 0) false with
          | false => rfl
          | true =>
            have := (unA (F2 k ok ek hjk hk hek hlk)).1
            exact (disj_not this (x := t) (by rw [hdt]; simp) (List.mem_append.2 (.inl (by rw [hdk]; simp)))).elim
      · have e1 : lk .any (upd (selS (fun p => listed.getD (ix.getD p 0) false) l es 0 s0) oj.dst ej.v ej.ch).tm t = lk .any (selS (fun p => listed.getD (ix.getD p 0) false) l es 0 s0).tm t := by
          simp only [upd]
          cases hq : oj.dst with
          | none => rfl
          | some d => rw [lk_cons, if_neg (fun e => hdt (by rw [hq, e]))]
        rw [e1]
        refine sel_tm _ _ _ _ _ rfl (fun k ok hk hdk => ?_)
        rw [Nat.zero_add]
        exact hsetp k ok hk (fun e => by subst e; rw [hoj'] at hk; cases hk; exact hdt hdk)
    · cases hct : lkO ej.ch c with
      | some v =>
        rw [sel_mem_last l es 0 s0 jj ej (by omega) hej hct (by rw [Nat.zero_add, hjD]; exact hsetj) (fun k ek hjk hek hck => ?_)]
        · simp only [upd]; rw [lkO_append, hct]
        · obtain ⟨ok, hk⟩ := exO k ek hek
          rw [Nat.zero_add, hsetp k ok hk (by omega)]
          cases hlk : listed.getD (ix.getD k 0) false with
          | false => rfl
          | true =>
            have := (unA (F2 k ok ek hjk hk hek hlk)).2.2.1
            exact (disj_not this (x := c) (keys_of (by rw [hct]; simp)) (List.mem_append.2 (.inl (keys_of hck)))).elim
      | none =>
        have e1 : lkO (upd (selS (fun p => listed.getD (ix.getD p 0) false) l es 0 s0) oj.dst ej.v ej.ch).mem c = lkO (selS (fun p => listed.getD (ix.getD p 0) false) l es 0 s0).mem c := by
          simp only [upd]; rw [lkO_append, hct]
        rw [e1]
        refine sel_mem _ _ _ _ _ rfl (fun k ek hek hck => ?_)
        obtain ⟨ok, hk⟩ := exO k ek hek
        rw [Nat.zero_add]
        exact hsetp k ok hk (fun e => by subst e; rw [hej] at hek; cases hek; exact hck hct)

theorem path_app (all : List Oper) : ∀ (l : List Oper) (s : St) (es : List Eff) (o : Oper) (e : Eff), Path cx all l s es → dOk cx o.dst = true → Step cx all (endS l es s) o e → Path cx all (l ++ [o]) s (es ++ [e]) ∧ endS (l ++ [o]) (es ++ [e]) s = upd (endS l es s) o.dst e.v e.ch
  | [], s, es, o, e, h, hd, hs => by
    have : es = [] := h
    subst this
    exact ⟨⟨e, [], rfl, hd, hs, rfl⟩, rfl⟩
  | o0 :: r, s, es, o, e, h, hd, hs => by
    obtain ⟨e0, es', rfl, h1, h2, h3⟩ := h
    obtain ⟨q1, q2⟩ := path_app all r _ es' o e h3 hd hs
    exact ⟨⟨e0, es' ++ [e], rfl, h1, h2, q1⟩, q2⟩
theorem endF_app : ∀ (es : List Eff) (i : Nat) (fs : List (Nat × Eff)) (e : Eff), endF i (es ++ [e]) fs = (i + es.length, e) :: endF i es fs
  | [], i, fs, e => by simp [endF]
  | e0 :: es, i, fs, e => by
    simp only [List.cons_append, endF]
    rw [endF_app es (i + 1) _ e, List.length_cons, show i + 1 + es.length = i + (es.length + 1) by omega]

theorem edgB_get {all : List Oper} (h : edgB all = true) : ∀ i o, all[i]? = some o → edgesOk o i = true := by
  intro i o ho
  unfold edgB at h
  rw [List.all_eq_true] at h
  have := h (o, i) (by rw [List.mem_iff_getElem?]; exact ⟨i, by simp [List.getElem?_zipIdx, ho]⟩)
  simp only [Bool.and_eq_true] at this
  exact this.2

theorem indS_get {all : List Oper} {b : List Nat} {lo n : Nat} {l : List Oper} {es : List Eff} (h : indS all b lo n (endF lo es []) = true) (hl : l.length = n) (he : es.length = n) (hla : ∀ k, k < n → l[k]? = all[lo + k]?) :
    ∀ i j oi oj ei ej, i < j → l[i]? = some oi → l[j]? = some oj → es[i]? = some ei → es[j]? = some ej → (b.getD (lo + j) 0).testBit (lo + i) = true ∨ apartE all oi oj ei ej = true := by
  intro i j oi oj ei ej hij hoi hoj hei hej
  have hj : j < n := by have := (List.getElem?_eq_some_iff.1 hoj).1; omega
  unfold indS at h
  rw [List.all_eq_true] at h
  have h1 := h j (List.mem_range.2 hj)
  rw [List.all_eq_true] at h1
  have h2 := h1 i (List.mem_range.2 hij)
  unfold pairB at h2
  rw [Bool.or_eq_true] at h2
  rcases h2 with h2 | h2
  · exact .inl h2
  · have q : ∀ k e, es[k]? = some e → lkO (endF lo es []) (lo + k) = some e := fun k e hk => by
      rw [lkO_endF, if_pos ⟨by omega, by have := (List.getElem?_eq_some_iff.1 hk).1; omega⟩]
      have : lo + k - lo = k := by omega
      rw [this]; exact hk
    rw [q i ei hei, q j ej hej, ← hla i (by omega), ← hla j hj, hoi, hoj] at h2
    exact .inr h2

/-! ### Operations that neither stand ahead of a call nor wait for it -/
def zipF : List (Nat × Oper) → List Eff → List (Nat × Eff) → List (Nat × Eff)
  | (j, _) :: r, e :: es, fs => zipF r es ((j, e) :: fs)
  | _, _, fs => fs
theorem wpZ_path (all : List Oper) (R : St → List (Nat × Eff) → Prop) : ∀ (z : List (Nat × Oper)) (s : St) (fs : List (Nat × Eff)), wpZ cx all R z s fs → ∃ es, Path cx all (z.map (·.2)) s es ∧ R (endS (z.map (·.2)) es s) (zipF z es fs)
  | [], s, fs, h => ⟨[], rfl, h⟩
  | (j, o) :: r, s, fs, h => by
    unfold wpZ at h
    obtain ⟨es, hp, hk⟩ := wpR_path _ _ _ _ _ _ h
    obtain ⟨e, es', rfl, hd, hs, hp'⟩ := hp
    have : es' = [] := hp'
    subst this
    obtain ⟨es2, q1, q2⟩ := wpZ_path all R r _ _ hk
    exact ⟨e :: es2, ⟨e, es2, rfl, hd, hs, q1⟩, q2⟩
theorem zipF_out {j : Nat} : ∀ {z : List (Nat × Oper)} {es : List Eff} {fs : List (Nat × Eff)}, j ∉ z.map (·.1) → lkO (zipF z es fs) j = lkO fs j
  | [], es, fs, _ => by cases es <;> rfl
  | _ :: _, [], fs, _ => rfl
  | (i, o) :: r, e :: es, fs, h => by
    simp only [List.map_cons, List.mem_cons, not_or] at h
    simp only [zipF]
    rw [zipF_out h.2, lkO_cons, if_neg (fun e => h.1 e.symm)]
theorem zipF_in : ∀ {z : List (Nat × Oper)} {es : List Eff} {fs : List (Nat × Eff)} {p j : Nat} {e : Eff}, (z.map (·.1)).Nodup → (z.map (·.1))[p]? = some j → es[p]? = some e → lkO (zipF z es fs) j = some e
  | [], es, fs, p, j, e, _, h, _ => by simp at h
  | _ :: _, [], fs, p, j, e, _, _, h => by simp at h
  | (i, o) :: r, e0 :: es, fs, 0, j, e, hn, h1, h2 => by
    simp only [List.map_cons, List.getElem?_cons_zero, Option.some.injEq, List.nodup_cons] at hn h1 h2
    subst h1 h2
    simp only [zipF]
    rw [zipF_out hn.1, lkO_cons, if_pos rfl]
  | (i, o) :: r, e0 :: es, fs, p + 1, j, e, hn, h1, h2 => by
    simp only [List.map_cons, List.getElem?_cons_succ, List.nodup_cons] at hn h1 h2
    simp only [zipF]
    exact zipF_in hn.2 h1 h2
theorem numsZ_map : ∀ (z : List (Nat × Oper)), numsZ z = z.map (·.1)
  | [] => rfl
  | (_, _) :: r => by simp [numsZ, numsZ_map r]
theorem pickZ_cons {b : List Nat} {c : Nat} {q : Bool} {o : Oper} {r : List Oper} {j : Nat} : pickZ b c q (o :: r) j = if (b.getD j 0).testBit c = q then (j, o) :: pickZ b c q r (j + 1) else pickZ b c q r (j + 1) := by
  conv => lhs; unfold pickZ
  cases (b.getD j 0).testBit c <;> cases q <;> rfl
theorem pickZ_mem {b : List Nat} {c : Nat} {q : Bool} : ∀ {r : List Oper} {j0 : Nat} {x : Nat × Oper}, x ∈ pickZ b c q r j0 ↔ ∃ k, x.1 = j0 + k ∧ r[k]? = some x.2 ∧ (b.getD x.1 0).testBit c = q
  | [], j0, x => by simp [pickZ]
  | o :: r, j0, x => by
    have ih : x ∈ pickZ b c q r (j0 + 1) ↔ _ := pickZ_mem
    have key : (∃ k, x.1 = j0 + k ∧ (o :: r)[k]? = some x.2 ∧ (b.getD x.1 0).testBit c = q) ↔ (x = (j0, o) ∧ (b.getD j0 0).testBit c = q) ∨ x ∈ pickZ b c q r (j0 + 1) := by
      rw [ih]
      constructor
      · rintro ⟨k, h1, h2, h3⟩
        cases k with
        | zero =>
          simp only [List.getElem?_cons_zero, Option.some.injEq] at h2
          have e : x = (j0, o) := Prod.ext h1 h2.symm
          subst e
          exact .inl ⟨rfl, h3⟩
        | succ k => exact .inr ⟨k, by omega, by simpa using h2, h3⟩
      · rintro (⟨rfl, h⟩ | ⟨k, h1, h2, h3⟩)
        · exact ⟨0, rfl, rfl, h⟩
        · exact ⟨k + 1, by omega, by simpa using h2, h3⟩
    rw [key, pickZ_cons]
    split
    · rename_i h1; simp only [List.mem_cons, h1, and_true]
    · rename_i h1; simp only [h1, and_false, false_or]
theorem pickZ_sorted {b : List Nat} {c : Nat} {q : Bool} : ∀ {r : List Oper} {j0 : Nat}, ((pickZ b c q r j0).map (·.1)).Pairwise (· < ·)
  | [], j0 => .nil
  | o :: r, j0 => by
    have ih : ((pickZ b c q r (j0 + 1)).map (·.1)).Pairwise (· < ·) := pickZ_sorted
    have hlt : ∀ x, x ∈ (pickZ b c q r (j0 + 1)).map (·.1) → j0 < x := fun x hx => by
      obtain ⟨y, hy, rfl⟩ := List.mem_map.1 hx
      obtain ⟨k, h1, _⟩ := pickZ_mem.1 hy
      omega
    unfold pickZ
    split
    · exact List.pairwise_cons.2 ⟨hlt, ih⟩
    · exact List.pairwise_cons.2 ⟨hlt, ih⟩
    · exact ih
theorem pairsB_get {all : List Oper} {b : List Nat} {fs : List (Nat × Eff)} : ∀ {ix : List Nat}, pairsB all b fs ix = true → ∀ (p q i j : Nat), p < q → ix[p]? = some i → ix[q]? = some j → pairB all b fs i j = true
  | [], _, p, q, i, j, _, h, _ => by simp at h
  | a :: r, h, 0, q, i, j, hpq, h1, h2 => by
    simp only [pairsB, Bool.and_eq_true, List.all_eq_true] at h
    simp only [List.getElem?_cons_zero, Option.some.injEq] at h1
    subst h1
    obtain ⟨q, rfl⟩ : ∃ k, q = k + 1 := ⟨q - 1, by omega⟩
    exact h.1 j (List.mem_iff_getElem?.2 ⟨q, by simpa using h2⟩)
  | a :: r, h, p + 1, q, i, j, hpq, h1, h2 => by
    simp only [pairsB, Bool.and_eq_true] at h
    obtain ⟨q, rfl⟩ : ∃ k, q = k + 1 := ⟨q - 1, by omega⟩
    exact pairsB_get h.2 p q i j (by omega) (by simpa using h1) (by simpa using h2)
theorem maskT_lk (t : Nat) (tm : List (Nat × SV)) : ∀ ds : List Nat, lk .any (maskT ds tm) t = if t ∈ ds then .any else lk .any tm t
  | [] => by simp [maskT]
  | d :: r => by
    rw [maskT, lk_cons, maskT_lk t tm r]
    by_cases h : d = t
    · subst h; simp
    · have h' : ¬ t = d := fun e => h e.symm
      simp [h, h']
theorem preT_lk (tm0 : List (Nat × SV)) (t : Nat) (tm : List (Nat × SV)) : ∀ ds : List Nat, lk .any (preT tm0 ds tm) t = if t ∈ ds then lk .any tm0 t else lk .any tm t
  | [] => by simp [preT]
  | d :: r => by
    rw [preT, lk_cons, preT_lk tm0 t tm r]
    by_cases h : d = t
    · subst h; simp
    · have h' : ¬ t = d := fun e => h e.symm
      simp [h, h']
theorem clTs_mem {tm : List (Nat × SV)} {t : Nat} : ∀ {ds : List Nat}, clTs tm ds = true → t ∈ ds → closed (lk .any tm t) = true
  | d :: r, h, ht => by
    simp only [clTs, Bool.and_eq_true] at h
    rcases List.mem_cons.1 ht with e | ht
    · subst e; exact h.1
    · exact clTs_mem h.2 ht
theorem sel_congr {D D' : Nat → Bool} : ∀ (l : List Oper) (es : List Eff) (i i' : Nat) (s : St), (∀ p, p < l.length → D (i + p) = D' (i' + p)) → selS D l es i s = selS D' l es i' s
  | [], es, i, i', s, _ => by cases es <;> rfl
  | _ :: _, [], i, i', s, _ => rfl
  | o :: r, e :: es, i, i', s, h => by
    simp only [selS]
    have h0 := h 0 (by simp)
    rw [Nat.add_zero, Nat.add_zero] at h0
    rw [h0]
    exact sel_congr r es (i + 1) (i' + 1) _ (fun p hp => by have := h (p + 1) (by simpa using hp); rwa [show i + 1 + p = i + (p + 1) by omega, show i' + 1 + p = i' + (p + 1) by omega])
theorem sel_app {D : Nat → Bool} (l2 : List Oper) (es2 : List Eff) : ∀ (l1 : List Oper) (es1 : List Eff) (i : Nat) (s : St), es1.length = l1.length → selS D (l1 ++ l2) (es1 ++ es2) i s = selS D l2 es2 (i + l1.length) (selS D l1 es1 i s)
  | [], [], i, s, _ => rfl
  | o :: r, e :: es, i, s, h => by
    simp only [List.cons_append, selS, List.length_cons]
    rw [sel_app l2 es2 r es (i + 1) _ (by simpa using h)]
    congr 1; omega
theorem endS_app (l2 : List Oper) (es2 : List Eff) : ∀ (l1 : List Oper) (es1 : List Eff) (s : St), es1.length = l1.length → endS (l1 ++ l2) (es1 ++ es2) s = endS l2 es2 (endS l1 es1 s)
  | [], [], s, _ => rfl
  | o :: r, e :: es, s, h => by
    simp only [List.cons_append, endS]
    exact endS_app l2 es2 r es _ (by simpa using h)
theorem path_append (all : List Oper) (l2 : List Oper) (es2 : List Eff) : ∀ (l1 : List Oper) (es1 : List Eff) (s : St), Path cx all l1 s es1 → Path cx all l2 (endS l1 es1 s) es2 → Path cx all (l1 ++ l2) s (es1 ++ es2)
  | [], es1, s, h1, h2 => by
    have : es1 = [] := h1
    subst this; exact h2
  | o :: r, es1, s, h1, h2 => by
    obtain ⟨e, es', rfl, q1, q2, q3⟩ := h1
    exact ⟨e, es' ++ es2, rfl, q1, q2, path_append all l2 es2 r es' _ q3 h2⟩
theorem upd_tm {s s' : St} {d : Option Nat} {v : SV} {ch : List (Nat × Chunk)} {t : Nat} (h : lk .any s.tm t = lk .any s'.tm t ∨ d = some t) : lk .any (upd s d v ch).tm t = lk .any (upd s' d v ch).tm t := by
  cases d with
  | none => exact h.resolve_right (fun h => by cases h)
  | some k =>
    simp only [upd]
    rw [lk_cons, lk_cons]
    by_cases e : k = t
    · rw [if_pos e, if_pos e]
    · rw [if_neg e, if_neg e]
      exact h.resolve_right (fun h => e (by simpa using h))
theorem upd_tm_ne {s : St} {d : Option Nat} {v : SV} {ch : List (Nat × Chunk)} {t : Nat} (h : d ≠ some t) : lk .any (upd s d v ch).tm t = lk .any s.tm t := by
  cases d with
  | none => rfl
  | some k =>
    simp only [upd]
    rw [lk_cons, if_neg (fun e => h (by rw [e]))]
theorem path_congr (all : List Oper) : ∀ (l : List Oper) (es : List Eff) (s s' : St), (∀ t, lk .any s'.tm t = lk .any s.tm t) → (∀ c, lkO s'.mem c = lkO s.mem c) → Path cx all l s es → Path cx all l s' es
  | [], es, s, s', _, _, h => h
  | o :: r, es, s, s', ht, hm, h => by
    obtain ⟨e, es', rfl, q1, q2, q3⟩ := h
    exact ⟨e, es', rfl, q1, q2.move (fun t _ => ht t) (fun c _ => hm c), path_congr all r es' _ _ (fun t => upd_tm (.inl (ht t))) (fun c => by simp only [upd]; rw [lkO_append, lkO_append, hm]) q3⟩
theorem endS_congr : ∀ (l : List Oper) (es : List Eff) (s s' : St), (∀ t, lk .any s'.tm t = lk .any s.tm t) → (∀ c, lkO s'.mem c = lkO s.mem c) → (∀ t, lk .any (endS l es s').tm t = lk .any (endS l es s).tm t) ∧ ∀ c, lkO (endS l es s').mem c = lkO (endS l es s).mem c
  | [], es, s, s', ht, hm => by cases es <;> exact ⟨ht, hm⟩
  | _ :: _, [], s, s', ht, hm => ⟨ht, hm⟩
  | o :: r, e :: es, s, s', ht, hm => endS_congr r es _ _ (fun t => upd_tm (.inl (ht t))) (fun c => by simp only [upd]; rw [lkO_append, lkO_append, hm])
theorem not_disj {a b : List Nat} (h : disj a b = true) {x : Nat} (ha : x ∈ a) : x ∉ b := fun hb => disj_not h ha hb
/-- From another state in which they find the same. -/
theorem path_move (all : List Oper) : ∀ (z : List (Nat × Oper)) (es : List Eff) (s s' : St), ordZ all z = true → (∀ e, e ∈ es → e.rd = []) → (∀ t, t ∈ looksZ all z → t ∈ dstsZ z ∨ lk .any s'.tm t = lk .any s.tm t) → Path cx all (z.map (·.2)) s es → Path cx all (z.map (·.2)) s' es
  | [], es, s, s', _, _, _, h => h
  | (j, o) :: r, es, s, s', ho, hrd, ht, h => by
    obtain ⟨e, es', rfl, q1, q2, q3⟩ := h
    simp only [ordZ, Bool.and_eq_true] at ho
    refine ⟨e, es', rfl, q1, q2.move (fun t hlt => ?_) (fun c hc => (by rw [hrd e (List.mem_cons_self ..)] at hc; cases hc)), path_move all r es' _ _ ho.2 (fun e he => hrd e (List.mem_cons_of_mem _ he)) (fun t hlt => ?_) q3⟩
    · rcases ht t (by simp only [looksZ]; exact List.mem_append.2 (.inl hlt)) with h1 | h1
      · exact (not_disj ho.1.1 hlt h1).elim
      · exact h1
    · rcases ht t (by simp only [looksZ]; exact List.mem_append.2 (.inr hlt)) with h1 | h1
      · simp only [dstsZ] at h1
        rcases List.mem_append.1 h1 with h1 | h1
        · exact .inr (upd_tm (.inr (by simpa using h1)))
        · exact .inl h1
      · exact .inr (upd_tm (.inl h1))
theorem selZ_not {D : Nat → Bool} {t : Nat} : ∀ (z : List (Nat × Oper)) (es : List Eff) (i : Nat) (s : St), t ∉ dstsZ z → lk .any (selS D (z.map (·.2)) es i s).tm t = lk .any s.tm t
  | [], es, i, s, _ => by cases es <;> rfl
  | (j, o) :: r, [], i, s, _ => rfl
  | (j, o) :: r, e :: es, i, s, h => by
    simp only [dstsZ, List.mem_append, not_or] at h
    simp only [List.map_cons, selS]
    rw [selZ_not r es (i + 1) _ h.2]
    split
    · exact upd_tm_ne (fun e => h.1 (by rw [e]; simp))
    · rfl
theorem selZ_in {all : List Oper} {D : Nat → Bool} {t : Nat} : ∀ (z : List (Nat × Oper)) (es : List Eff) (i : Nat), ordZ all z = true → es.length = z.length → t ∈ dstsZ z →
    (∀ s, lk .any (selS D (z.map (·.2)) es i s).tm t = lk .any s.tm t) ∨ ∀ s s', lk .any (selS D (z.map (·.2)) es i s).tm t = lk .any (endS (z.map (·.2)) es s').tm t
  | [], es, i, _, _, h => by cases h
  | (j, o) :: r, e :: es, i, ho, hl, h => by
    simp only [ordZ, Bool.and_eq_true] at ho
    simp only [dstsZ] at h
    rcases List.mem_append.1 h with h1 | h1
    · have hr : t ∉ dstsZ r := not_disj ho.1.2 h1
      have hd : o.dst = some t := by simpa using h1
      have e2 : ∀ s', lk .any (endS (r.map (·.2)) es s').tm t = lk .any s'.tm t := fun s' => by rw [← sel_all _ _ 0]; exact selZ_not r es 0 s' hr
      cases hD : D i with
      | false => refine .inl fun s => ?_; simp only [List.map_cons, selS, hD]; exact selZ_not r es (i + 1) s hr
      | true =>
        refine .inr fun s s' => ?_
        simp only [List.map_cons, selS, hD, endS]
        rw [selZ_not r es (i + 1) _ hr, e2]
        exact upd_tm (.inr hd)
    · rcases selZ_in r es (i + 1) ho.2 (by simpa using hl) h1 with q | q
      · refine .inl fun s => ?_
        have hd : o.dst ≠ some t := fun e => not_disj ho.1.2 (x := t) (by rw [e]; simp) h1
        simp only [List.map_cons, selS]
        rw [q]
        split
        · exact upd_tm_ne hd
        · rfl
      · exact .inr fun s s' => by simp only [List.map_cons, selS, endS]; exact q _ _
theorem endZ_in {all : List Oper} {t : Nat} : ∀ (z : List (Nat × Oper)) (es : List Eff), ordZ all z = true → es.length = z.length → t ∈ dstsZ z → ∀ s s', lk .any (endS (z.map (·.2)) es s).tm t = lk .any (endS (z.map (·.2)) es s').tm t
  | [], es, _, _, h => by cases h
  | (j, o) :: r, e :: es, ho, hl, h => fun s s' => by
    simp only [ordZ, Bool.and_eq_true] at ho
    simp only [dstsZ] at h
    simp only [List.map_cons, endS]
    by_cases h2 : t ∈ dstsZ r
    · exact endZ_in r es ho.2 (by simpa using hl) h2 _ _
    · have hd : o.dst = some t := by simpa using (List.mem_append.1 h).resolve_right h2
      rw [← sel_all _ _ 0, ← sel_all _ _ 0, selZ_not r es 0 _ h2, selZ_not r es 0 _ h2]
      exact upd_tm (.inr hd)
theorem selZ_mem {D : Nat → Bool} : ∀ (l : List Oper) (es : List Eff) (i : Nat) (s : St), (∀ e, e ∈ es → e.ch = []) → (selS D l es i s).mem = s.mem
  | [], es, i, s, _ => by cases es <;> rfl
  | _ :: _, [], i, s, _ => rfl
  | o :: r, e :: es, i, s, h => by
    simp only [selS]
    rw [selZ_mem r es (i + 1) _ (fun e he => h e (List.mem_cons_of_mem _ he))]
    split
    · simp only [upd]; rw [h e (List.mem_cons_self ..)]; rfl
    · rfl
/-- A call in place, and operations that may be carried out ahead of it or behind it. -/
theorem float_run (hP : CxOk P cx) {ops : Array Oper} {id : Nat} {K : St → Prop} (hR : ∀ E s a w, Rel P cx.nt B M I0 G w0 E s a w → K s → Q .normal a w) (hedge : ∀ i o, ops.toList[i]? = some o → edgesOk o i = true)
    {r : List Oper} {lo c : Nat} {l1 : List Oper} {es1 : List Eff} {s0 : St} {T : Tr} {as : List SV} (hc : c = lo + l1.length) (hl : ∀ k, (l1 ++ o :: r)[k]? = ops.toList[lo + k]?) (hp : Path cx ops.toList l1 s0 es1)
    (hin : inlOf cx (ev (endS l1 es1 s0).tm) o = some (T, as)) (hd : dOk cx o.dst = true) (hw : wantB ops.toList (endS l1 es1 s0).tm o = some true)
    (hf : wpFl cx id ops.toList (befN ops.toList []) K o T as (pickZ (befN ops.toList []) c false r (c + 1)) (pickZ (befN ops.toList []) c true r (c + 1)) lo c (endS l1 es1 s0) (endF lo es1 [])) :
    ∀ (fuel : Nat) (listed : Array Bool) (E : Env) (a : Act) (w : World), listed.size = ops.size → toCome ops.size listed = fuel → Closed ops.toList (fun i => listed.getD i false) → (∀ i, i < lo → listed.getD i false = true) → (∀ i, lo ≤ i → listed.getD i false = false) →
      Rel P cx.nt B M I0 G w0 E s0 a w → wpAny P .any ops Q fuel listed a w := by
  have hl1 := path_length ops.toList l1 s0 es1 hp
  generalize hzf : pickZ (befN ops.toList []) c false r (c + 1) = zf at hf
  generalize hzb : pickZ (befN ops.toList []) c true r (c + 1) = zb at hf
  have ho : ops.toList[c]? = some o := by
    have := hl l1.length
    rw [List.getElem?_append_right (Nat.le_refl _), Nat.sub_self] at this
    rw [hc]; simpa using this.symm
  have hclt : c < ops.size := by have := (List.getElem?_eq_some_iff.1 ho).1; simpa using this
  have hrg : ∀ k, r[k]? = ops.toList[c + 1 + k]? := fun k => by
    have := hl (l1.length + 1 + k)
    rw [List.getElem?_append_right (by omega), show l1.length + 1 + k - l1.length = k + 1 by omega, List.getElem?_cons_succ] at this
    rw [this]; congr 1; omega
  have zfm : ∀ x : Nat × Oper, x ∈ zf ↔ ∃ k, x.1 = c + 1 + k ∧ r[k]? = some x.2 ∧ ((befN ops.toList []).getD x.1 0).testBit c = false := fun x => by rw [← hzf]; exact pickZ_mem
  have zbm : ∀ x : Nat × Oper, x ∈ zb ↔ ∃ k, x.1 = c + 1 + k ∧ r[k]? = some x.2 ∧ ((befN ops.toList []).getD x.1 0).testBit c = true := fun x => by rw [← hzb]; exact pickZ_mem
  have zfs : (zf.map (·.1)).Pairwise (· < ·) := by rw [← hzf]; exact pickZ_sorted
  have zbs : (zb.map (·.1)).Pairwise (· < ·) := by rw [← hzb]; exact pickZ_sorted
  have zfn : (zf.map (·.1)).Nodup := zfs.imp Nat.ne_of_lt
  have zbn : (zb.map (·.1)).Nodup := zbs.imp Nat.ne_of_lt
  have zfo : ∀ x, x ∈ zf → ops.toList[x.1]? = some x.2 := fun x hx => by
    obtain ⟨k, h1, h2, _⟩ := (zfm x).1 hx
    rw [h1, ← hrg]; exact h2
  have zbo : ∀ x, x ∈ zb → ops.toList[x.1]? = some x.2 := fun x hx => by
    obtain ⟨k, h1, h2, _⟩ := (zbm x).1 hx
    rw [h1, ← hrg]; exact h2
  have zfc : ∀ i, i ∈ zf.map (·.1) → c < i ∧ ((befN ops.toList []).getD i 0).testBit c = false := fun i hi => by
    obtain ⟨x, hx, rfl⟩ := List.mem_map.1 hi
    obtain ⟨k, h1, _, h3⟩ := (zfm x).1 hx
    exact ⟨by omega, h3⟩
  have zbc : ∀ i, i ∈ zb.map (·.1) → c < i ∧ ((befN ops.toList []).getD i 0).testBit c = true := fun i hi => by
    obtain ⟨x, hx, rfl⟩ := List.mem_map.1 hi
    obtain ⟨k, h1, _, h3⟩ := (zbm x).1 hx
    exact ⟨by omega, h3⟩
  have zall : ∀ i, c < i → i < ops.size → i ∈ zf.map (·.1) ∨ i ∈ zb.map (·.1) := fun i h1 h2 => by
    have hoi : ops.toList[i]? = some ops[i] := by simp [h2]
    have hk : r[i - (c + 1)]? = some ops[i] := by rw [hrg, show c + 1 + (i - (c + 1)) = i by omega]; exact hoi
    cases hb : ((befN ops.toList []).getD i 0).testBit c with
    | false => exact .inl (List.mem_map.2 ⟨(i, ops[i]), (zfm _).2 ⟨i - (c + 1), by dsimp only; omega, hk, hb⟩, rfl⟩)
    | true => exact .inr (List.mem_map.2 ⟨(i, ops[i]), (zbm _).2 ⟨i - (c + 1), by dsimp only; omega, hk, hb⟩, rfl⟩)
  unfold wpFl at hf
  obtain ⟨esF, hpF, hf⟩ := wpZ_path _ _ _ _ _ hf
  have hlF : esF.length = zf.length := by have := path_length ops.toList _ _ esF hpF; simpa using this
  split at hf
  rotate_left
  · exact hf.elim
  rename_i hfl
  unfold flB at hfl
  simp only [Bool.and_eq_true] at hfl
  obtain ⟨c1, c2, c3, c4, c5, c6, c7⟩ := hfl
  rw [numsZ_map] at c2
  have hn : c - lo = l1.length := by omega
  rw [hn] at c1 c2
  have hpure : ∀ e, e ∈ esF → e.ch = [] ∧ e.rd = [] := fun e he => by
    obtain ⟨p, hpe⟩ := List.mem_iff_getElem?.1 he
    have hpl : p < zf.length := by have := (List.getElem?_eq_some_iff.1 hpe).1; omega
    unfold pureZ at c3
    rw [List.all_eq_true] at c3
    have := c3 _ (List.getElem_mem hpl)
    rw [zipF_in (z := zf) (p := p) (e := e) zfn (by simp [hpl]) hpe] at this
    dsimp only at this
    rw [Bool.and_eq_true, List.isEmpty_iff, List.isEmpty_iff] at this
    exact this
  have bar1 : ∀ i, lo ≤ i → i < c → ((befN ops.toList []).getD c 0).testBit i = true := fun i h1 h2 => by
    rw [List.all_eq_true] at c1
    have := c1 (i - lo) (List.mem_range.2 (by omega))
    rwa [show lo + (i - lo) = i by omega] at this
  intro fuel listed E a w hsz hcm hcl hA hB h
  -- the first part
  have rng : ∀ p : Nat, (List.range' lo l1.length)[p]? = if p < l1.length then some (lo + p) else none := fun p => by
    by_cases hpl : p < l1.length
    · rw [if_pos hpl, List.getElem?_range' hpl]; simp
    · rw [if_neg hpl]; exact List.getElem?_eq_none (by simp; omega)
  have lkZ : ∀ (z : List (Nat × Oper)), (∀ x, x ∈ z → ops.toList[x.1]? = some x.2) → ∀ p : Nat, (z.map (·.2))[p]? = ((z.map (·.1))[p]?).bind fun i => ops.toList[i]? := fun z hz p => by
    rw [List.getElem?_map, List.getElem?_map]
    cases hzp : z[p]? with
    | none => rfl
    | some x => simp only [Option.map_some, Option.bind_some]; exact (hz x (List.mem_iff_getElem?.2 ⟨p, hzp⟩)).symm
  have hla : ∀ k, k < l1.length → l1[k]? = ops.toList[lo + k]? := fun k hk => by
    have := hl k
    rwa [List.getElem?_append_left hk] at this
  have selN : ∀ (l : List Oper) (es : List Eff) (i : Nat) (s : St) (D : Nat → Bool), (∀ p, p < l.length → D (i + p) = false) → selS D l es i s = s := fun l es i s D hD => by
    rw [sel_congr (D' := fun _ => false) l es i i s (fun p hp => hD p hp), sel_none]
  have selA : ∀ (l : List Oper) (es : List Eff) (i : Nat) (s : St) (D : Nat → Bool), (∀ p, p < l.length → D (i + p) = true) → selS D l es i s = endS l es s := fun l es i s D hD => by
    rw [sel_congr (D' := fun _ => true) l es i i s (fun p hp => hD p hp), sel_all]
  have d1 : ∀ (lst : Array Bool) (p : Nat), p < l1.length → lst.getD ((List.range' lo l1.length ++ zf.map (·.1)).getD p 0) false = lst.getD (lo + p) false := fun lst p hpl => by
    rw [List.getD_eq_getElem?_getD, List.getElem?_append_left (by simpa using hpl), rng, if_pos hpl]; rfl
  refine ix_run hP (ix := List.range' lo l1.length ++ zf.map (·.1)) (l := l1 ++ zf.map (·.2)) (es := es1 ++ esF) (s0 := s0) (D0 := fun i => decide (i < lo)) (fun p => ?_) (by simp) ?_ (path_append _ _ _ _ _ _ hp hpF) hedge (fun p q i j oi oj ei ej hpq hi hj hoi hoj hei hej => ?_)
    (fun fuel listed E a w hsz hcm hcl hD h j hj hjx => ?_) (fun listed E a w hall hD h => ?_) fuel listed E a w hsz hcm hcl (fun i hi => ?_) (by
      rw [selN _ _ _ _ _ (fun p hpl => ?_)]
      · exact h
      · rw [Nat.zero_add]
        rcases Nat.lt_or_ge p l1.length with h1 | h1
        · rw [d1 _ _ h1]; exact hB _ (by omega)
        · have hpz : p - l1.length < (zf.map (·.1)).length := by simp at hpl ⊢; omega
          have : (List.range' lo l1.length ++ zf.map (·.1)).getD p 0 = (zf.map (·.1))[p - l1.length] := by
            rw [List.getD_eq_getElem?_getD, List.getElem?_append_right (by simp; omega), List.length_range', List.getElem?_eq_getElem hpz]; rfl
          rw [this]
          have := (zfc _ (List.getElem_mem hpz)).1
          exact hB _ (by omega))
  · rcases Nat.lt_or_ge p l1.length with h1 | h1
    · rw [List.getElem?_append_left h1, List.getElem?_append_left (by simpa using h1), rng, if_pos h1, Option.bind_some]
      exact hla p h1
    · rw [List.getElem?_append_right h1, List.getElem?_append_right (by simpa using h1), List.length_range']
      exact lkZ zf zfo _
  · rw [List.nodup_append]
    refine ⟨List.nodup_range', zfn, fun x hx y hy e => ?_⟩
    have h1 := List.mem_range'_1.1 hx
    have h2 := (zfc y hy).1
    omega
  · have lkE : ∀ (p i : Nat) e, (List.range' lo l1.length ++ zf.map (·.1))[p]? = some i → (es1 ++ esF)[p]? = some e → lkO (zipF zf esF (endF lo es1 [])) i = some e := fun p i e hi he => by
      rcases Nat.lt_or_ge p l1.length with h1 | h1
      · rw [List.getElem?_append_left (by simpa using h1), rng, if_pos h1] at hi
        rw [List.getElem?_append_left (by omega)] at he
        cases hi
        rw [zipF_out (fun hm => by have := (zfc _ hm).1; omega), lkO_endF, if_pos ⟨by omega, by omega⟩, show lo + p - lo = p by omega]
        exact he
      · rw [List.getElem?_append_right (by simpa using h1), List.length_range'] at hi
        rw [List.getElem?_append_right (by omega), hl1] at he
        exact zipF_in zfn hi he
    have hpb := pairsB_get c2 p q i j hpq hi hj
    unfold pairB at hpb
    rw [Bool.or_eq_true] at hpb
    rcases hpb with h1 | h1
    · exact .inl h1
    · rw [lkE p i ei hi hei, lkE q j ej hj hej] at h1
      have hx : ∀ (p i : Nat) oi, (List.range' lo l1.length ++ zf.map (·.1))[p]? = some i → (l1 ++ zf.map (·.2))[p]? = some oi → ops.toList[i]? = some oi := fun p i oi hi hoi => by
        rcases Nat.lt_or_ge p l1.length with h1 | h1
        · rw [List.getElem?_append_left (by simpa using h1), rng, if_pos h1] at hi
          rw [List.getElem?_append_left h1, hla p h1] at hoi
          cases hi; exact hoi
        · rw [List.getElem?_append_right (by simpa using h1), List.length_range'] at hi
          rw [List.getElem?_append_right h1, lkZ zf zfo, hi, Option.bind_some] at hoi
          exact hoi
      rw [hx p i oi hi hoi, hx q j oj hj hoj] at h1
      exact .inr h1
  · -- what is carried out besides these: the call
    obtain ⟨hju, oj, hoj, hdep⟩ := mem_ready.1 hj
    have hjlt : j < ops.size := (Array.getElem?_eq_some_iff.1 hoj).1
    have hjf : listed.getD j false = false := by
      rw [Array.getD_eq_getD_getElem?, Array.getElem?_eq_getElem (by omega)] at hju ⊢
      simpa using hju
    have hready : Ready oj (fun i => listed.getD i false) := fun e he hb => hdep e (by simpa using he) hb
    have hbef0 := fun i hi => befN_bit hcl hedge ops.toList 0 [] (by simp) rfl (fun j o h => by omega) j oj (by simpa using hoj) hready i hi
    have hcx : c ∉ List.range' lo l1.length ++ zf.map (·.1) := fun hm => by
      rcases List.mem_append.1 hm with h1 | h1
      · have := List.mem_range'_1.1 h1; omega
      · have := (zfc _ h1).1; omega
    have hcf : listed.getD c false = false := by rw [hD c hcx]; exact decide_eq_false (by omega)
    have hjc : j = c := by
      rw [List.mem_append, not_or] at hjx
      rcases Nat.lt_trichotomy j c with h1 | h1 | h1
      · rcases Nat.lt_or_ge j lo with h2 | h2
        · have := hD j (fun hm => by
            rcases List.mem_append.1 hm with h3 | h3
            · have := List.mem_range'_1.1 h3; omega
            · have := (zfc _ h3).1; omega)
          rw [hjf, decide_eq_true h2] at this; cases this
        · exact (hjx.1 (List.mem_range'_1.2 ⟨h2, by omega⟩)).elim
      · exact h1
      · rcases zall j h1 hjlt with h2 | h2
        · exact (hjx.2 h2).elim
        · have := hbef0 c (zbc _ h2).2
          rw [hcf] at this; cases this
    subst hjc
    have hoo : oj = o := by
      have : ops.toList[j]? = some oj := by simpa using hoj
      rw [ho] at this; exact (Option.some.inj this).symm
    subst hoo
    have hdone : ∀ p, p < l1.length → listed.getD (lo + p) false = true := fun p hp => hbef0 (lo + p) (bar1 _ (by omega) (by omega))
    generalize hs1 : endS l1 es1 s0 = s1 at hin hw hpF hf c2 c3 c5
    let X : Nat → Bool := fun p => listed.getD ((zf.map (·.1)).getD p 0) false
    have hσ : selS (fun p => listed.getD ((List.range' lo l1.length ++ zf.map (·.1)).getD p 0) false) (l1 ++ zf.map (·.2)) (es1 ++ esF) 0 s0 = selS X (zf.map (·.2)) esF 0 s1 := by
      rw [sel_app _ _ _ _ _ _ hl1, selA l1 es1 0 s0 _ (fun p hpl => by rw [Nat.zero_add, d1 _ _ hpl]; exact hdone p hpl), hs1]
      refine sel_congr _ _ _ _ _ (fun p hpl => ?_)
      simp only [X, Nat.zero_add]
      congr 1
      rw [List.getD_eq_getElem?_getD, List.getD_eq_getElem?_getD, List.getElem?_append_right (by simp), List.length_range', Nat.add_sub_cancel_left]
    rw [hσ] at h
    have hσm : (selS X (zf.map (·.2)) esF 0 s1).mem = s1.mem := selZ_mem _ _ _ _ (fun e he => (hpure e he).1)
    have hσn : ∀ t, t ∉ dstsZ zf → lk .any (selS X (zf.map (·.2)) esF 0 s1).tm t = lk .any s1.tm t := fun t ht => selZ_not zf esF 0 s1 ht
    have hFn : ∀ t, t ∉ dstsZ zf → lk .any (endS (zf.map (·.2)) esF s1).tm t = lk .any s1.tm t := fun t ht => by rw [← sel_all _ _ 0]; exact selZ_not zf esF 0 s1 ht
    have h1 : Rel P cx.nt B M I0 G w0 E ⟨maskT (dstsZ zf) s1.tm, s1.mem⟩ a w := h.less (fun t => by
      dsimp only
      rw [maskT_lk]
      by_cases ht : t ∈ dstsZ zf
      · rw [if_pos ht]; exact .inl rfl
      · rw [if_neg ht]; exact .inr (hσn t ht).symm) (fun k => by rw [hσm])
    have hmk : ∀ t, t ∈ looks ops.toList oj → lk .any (maskT (dstsZ zf) s1.tm) t = lk .any s1.tm t := fun t ht => by
      rw [maskT_lk, if_neg (fun hm => not_disj c6 hm (List.mem_append.2 (.inl ht)))]
    have hin' : inlOf cx (ev (maskT (dstsZ zf) s1.tm)) oj = some (T, as) := by
      rw [← hin]
      refine inlOf_congr (fun x hx => ?_)
      cases x with
      | tmp t =>
        refine hmk t ?_
        unfold looks
        refine List.mem_append.2 (.inl ?_)
        rw [List.mem_filterMap]
        exact ⟨.tmp t, by simpa using hx, rfl⟩
      | const v => rfl
      | global g => rfl
      | func f => rfl
    have hw' : wantB ops.toList (maskT (dstsZ zf) s1.tm) oj = some true := by
      rw [← hw]
      unfold wantB
      cases hg : oj.guard with
      | none => rfl
      | some g =>
        obtain ⟨j', b⟩ := g
        dsimp only
        cases hj' : ops.toList[j']? with
        | none => rfl
        | some oj' =>
          dsimp only
          cases hdj : oj'.dst with
          | none => rfl
          | some d =>
            dsimp only
            rw [hmk d (by unfold looks; rw [hg]; simp [hj', hdj])]
    unfold wpOp
    have ho' : ops[j]? = some oj := hoj
    simp only [ho']
    rw [if_pos (wantB_run h1 hw')]
    refine .inl (inl_wp2 hP h1.narrow hin' hd hf (fun E' s' x w' h2 hk => ?_))
    obtain ⟨h3, hI⟩ := h1.widen h2
    obtain ⟨esB, hpB, hk⟩ := wpZ_path _ _ _ _ _ hk
    have hlB : esB.length = zb.length := by have := path_length ops.toList _ _ esB hpB; simpa using this
    split at hk
    rotate_left
    · exact hk.elim
    rename_i hpr
    rw [numsZ_map, numsZ_map] at hpr
    generalize hs1F : endS (zf.map (·.2)) esF s1 = s1F at hk hpB hFn c5
    -- the state ahead of these, and behind them
    let s2 : St := ⟨preT s1F.tm (looksZ ops.toList zf ++ dstsZ zf) s'.tm, s'.mem⟩
    let s2b : St := ⟨maskT (dstsZ zf) (preT s1F.tm (looksZ ops.toList zf) s'.tm), s'.mem⟩
    have hs2b : ∀ t, t ∉ dstsZ zf → lk .any s2b.tm t = if t ∈ looksZ ops.toList zf then lk .any s1F.tm t else lk .any s'.tm t := fun t ht => by
      show lk .any (maskT _ _) t = _
      rw [maskT_lk, if_neg ht, preT_lk]
    have hs2m : ∀ t, t ∈ dstsZ zf → lk .any s2b.tm t = .any := fun t ht => by
      show lk .any (maskT _ _) t = _
      rw [maskT_lk, if_pos ht]
    have hpZ : Path cx ops.toList (zf.map (·.2)) s2b esF := path_move _ zf esF s1 s2b c4 (fun e he => (hpure e he).2) (fun t ht => by
      by_cases hm : t ∈ dstsZ zf
      · exact .inl hm
      · refine .inr ?_
        rw [hs2b t hm, if_pos ht, hFn t hm]) hpF
    have hend : (∀ t, lk .any (endS (zf.map (·.2)) esF s2b).tm t = lk .any s2.tm t) ∧ ∀ k, lkO (endS (zf.map (·.2)) esF s2b).mem k = lkO s2.mem k := by
      refine ⟨fun t => ?_, fun k => ?_⟩
      · show _ = lk .any (preT _ _ _) t
        rw [preT_lk]
        by_cases hm : t ∈ dstsZ zf
        · rw [if_pos (List.mem_append.2 (.inr hm)), ← hs1F]
          exact endZ_in zf esF c4 hlF hm _ _
        · rw [← sel_all _ _ 0, selZ_not zf esF 0 s2b hm, hs2b t hm]
          by_cases hl : t ∈ looksZ ops.toList zf
          · rw [if_pos hl, if_pos (List.mem_append.2 (.inl hl))]
          · rw [if_neg hl, if_neg (fun hx => by rcases List.mem_append.1 hx with hx | hx; exact hl hx; exact hm hx)]
      · rw [← sel_all _ _ 0, selZ_mem _ _ _ _ (fun e he => (hpure e he).1)]
    have hpB' : Path cx ops.toList (zb.map (·.2)) (endS (zf.map (·.2)) esF s2b) esB := path_congr _ _ _ s2 _ hend.1 hend.2 hpB
    have hju' : listed.getD j true = false := hju
    have hset : ∀ k, k ≠ j → (listed.setIfInBounds j true).getD k false = listed.getD k false := fun k hk => getD_set_ne false (Ne.symm hk)
    have hsetj : (listed.setIfInBounds j true).getD j false = true := by simp [Array.getD_eq_getD_getElem?, hsz, hjlt]
    have zbf : ∀ i, i ∈ zb.map (·.1) → listed.getD i false = false := fun i hi => by
      have h4 := zbc i hi
      have := hD i (fun hm => by
        rcases List.mem_append.1 hm with h3 | h3
        · have := List.mem_range'_1.1 h3; omega
        · have := (zfc _ h3).2; rw [h4.2] at this; cases this)
      rw [this]; exact decide_eq_false (by omega)
    have hdis : ∀ i, i ∈ zf.map (·.1) → i ∉ zb.map (·.1) := fun i h4 h5 => by
      have := (zfc i h4).2
      rw [(zbc i h5).2] at this; cases this
    have dF : ∀ (lst : Array Bool) p, p < zf.length → lst.getD ((zf.map (·.1) ++ zb.map (·.1)).getD p 0) false = lst.getD ((zf.map (·.1)).getD p 0) false := fun lst p hpl => by
      congr 1
      rw [List.getD_eq_getElem?_getD, List.getD_eq_getElem?_getD, List.getElem?_append_left (by simpa using hpl)]
    have hτ : selS (fun p => (listed.setIfInBounds j true).getD ((zf.map (·.1) ++ zb.map (·.1)).getD p 0) false) (zf.map (·.2) ++ zb.map (·.2)) (esF ++ esB) 0 s2b = selS X (zf.map (·.2)) esF 0 s2b := by
      rw [sel_app _ _ _ _ _ _ (by simpa using hlF), selN _ _ _ _ _ (fun p hpl => ?_)]
      · refine sel_congr _ _ _ _ _ (fun p hpl => ?_)
        rw [Nat.zero_add, dF _ _ (by simpa using hpl)]
        have hm : (zf.map (·.1)).getD p 0 ∈ zf.map (·.1) := by
          rw [List.getD_eq_getElem?_getD, List.getElem?_eq_getElem (by simpa using hpl)]; exact List.getElem_mem _
        exact hset _ (fun e => by have := (zfc _ hm).1; omega)
      · have hpl' : p < (zb.map (·.1)).length := by simpa using hpl
        have : (zf.map (·.1) ++ zb.map (·.1)).getD (0 + (zf.map (·.2)).length + p) 0 = (zb.map (·.1))[p] := by
          rw [List.getD_eq_getElem?_getD, List.getElem?_append_right (by simp), List.length_map, List.length_map, Nat.zero_add, Nat.add_sub_cancel_left, List.getElem?_eq_getElem hpl']; rfl
        rw [this]
        have hm := List.getElem_mem hpl'
        rw [hset _ (fun e => by have := (zbc _ hm).1; omega)]
        exact zbf _ hm
    -- what is known behind the call
    have hval : ∀ t, t ∉ oj.dst.toList → closed (lk .any (selS X (zf.map (·.2)) esF 0 s1).tm t) = true → CV E' (lkO s'.mem) w' ((a.put oj.dst x).tmps.getD t undef) (lk .any (selS X (zf.map (·.2)) esF 0 s1).tm t) := fun t ht hcl => by
      have h4 := closed_conc _ _ hcl (h.tm t)
      have h5 : (a.put oj.dst x).tmps.getD t undef = a.tmps.getD t undef := by
        cases hdd : oj.dst with
        | none => rfl
        | some d =>
          have hk : d < a.tmps.size := by rw [h.tsize]; exact dOk_lt hd d hdd
          rw [put_getD hk, if_neg (fun e => ht (by rw [hdd, e]; simp))]
      rw [h5]
      exact .conc _ _ (h4.mono (fun b hb => (hI b hb).1) (fun b hb => (hI b hb).2))
    have hrel : Rel P cx.nt B M I0 G w0 E' (selS X (zf.map (·.2)) esF 0 s2b) (a.put oj.dst x) w' := by
      have em : (selS X (zf.map (·.2)) esF 0 s2b).mem = s'.mem := selZ_mem _ _ _ _ (fun e he => (hpure e he).1)
      refine ⟨h3.defers, h3.tsize, h3.fr, h3.base, h3.i0, h3.inew, by rw [em]; exact h3.loc, h3.inj, fun t => ?_, by rw [em]; exact h3.ch, h3.ld, h3.gv⟩
      rw [em]
      by_cases hm : t ∈ dstsZ zf
      · have htd : t ∉ oj.dst.toList := not_disj c6 hm |> fun q hx => q (List.mem_append.2 (.inr hx))
        rcases selZ_in (D := X) zf esF 0 c4 hlF hm with q | q
        · rw [q, hs2m t hm]; exact .conc _ _ (.any _)
        · have e1 : lk .any (selS X (zf.map (·.2)) esF 0 s2b).tm t = lk .any (selS X (zf.map (·.2)) esF 0 s1).tm t := (q s2b s1).trans (q s1 s1).symm
          rw [e1]
          refine hval t htd ?_
          rw [q s1 s1, hs1F]
          exact clTs_mem c5 (List.mem_append.2 (.inr hm))
      · rw [selZ_not zf esF 0 s2b hm, hs2b t hm]
        by_cases hl : t ∈ looksZ ops.toList zf
        · rw [if_pos hl, hFn t hm, ← hσn t hm]
          refine hval t (not_disj c7 hl) ?_
          rw [hσn t hm, ← hFn t hm]
          exact clTs_mem c5 (List.mem_append.2 (.inl hl))
        · rw [if_neg hl]; exact h3.tm t
    refine ix_run hP (ix := zf.map (·.1) ++ zb.map (·.1)) (l := zf.map (·.2) ++ zb.map (·.2)) (es := esF ++ esB) (s0 := s2b) (D0 := fun i => decide (i ≤ j)) (fun p => ?_) (by simp) ?_ (path_append _ _ _ _ _ _ hpZ hpB') hedge (fun p q i j' oi oj' ei ej hpq hi hj' hoi hoj' hei hej => ?_)
      (fun fuel lst E a w hsz hcm hcl hD2 h j2 hj2 hj2x => ?_) (fun lst E a w hall hD2 h => ?_) fuel _ E' _ w' (by simp [hsz]) (by have := toCome_set hsz hju'; omega) (fun i oi hoi hi e he hb => ?_) (fun i hi => ?_) (by rw [hτ]; exact hrel)
    · rcases Nat.lt_or_ge p zf.length with h4 | h4
      · rw [List.getElem?_append_left (by simpa using h4), List.getElem?_append_left (by simpa using h4)]
        exact lkZ zf zfo p
      · rw [List.getElem?_append_right (by simpa using h4), List.getElem?_append_right (by simpa using h4), List.length_map, List.length_map]
        exact lkZ zb zbo _
    · rw [List.nodup_append]
      exact ⟨zfn, zbn, fun x hx y hy e => hdis x hx (e ▸ hy)⟩
    · have lkE : ∀ (p i : Nat) e, (zf.map (·.1) ++ zb.map (·.1))[p]? = some i → (esF ++ esB)[p]? = some e → lkO (zipF zb esB (zipF zf esF (endF lo es1 []))) i = some e := fun p i e hi he => by
        rcases Nat.lt_or_ge p zf.length with h4 | h4
        · rw [List.getElem?_append_left (by simpa using h4)] at hi
          rw [List.getElem?_append_left (by omega)] at he
          rw [zipF_out (hdis i (List.mem_iff_getElem?.2 ⟨p, hi⟩))]
          exact zipF_in zfn hi he
        · rw [List.getElem?_append_right (by simpa using h4), List.length_map] at hi
          rw [List.getElem?_append_right (by omega), hlF] at he
          exact zipF_in zbn hi he
      have hpb := pairsB_get hpr p q i j' hpq hi hj'
      unfold pairB at hpb
      rw [Bool.or_eq_true] at hpb
      rcases hpb with h4 | h4
      · exact .inl h4
      · rw [lkE p i ei hi hei, lkE q j' ej hj' hej] at h4
        have hx : ∀ (p i : Nat) oi, (zf.map (·.1) ++ zb.map (·.1))[p]? = some i → (zf.map (·.2) ++ zb.map (·.2))[p]? = some oi → ops.toList[i]? = some oi := fun p i oi hi hoi => by
          rcases Nat.lt_or_ge p zf.length with h4 | h4
          · rw [List.getElem?_append_left (by simpa using h4)] at hi
            rw [List.getElem?_append_left (by simpa using h4), lkZ zf zfo, hi, Option.bind_some] at hoi
            exact hoi
          · rw [List.getElem?_append_right (by simpa using h4), List.length_map] at hi
            rw [List.getElem?_append_right (by simpa using h4), List.length_map, lkZ zb zbo, hi, Option.bind_some] at hoi
            exact hoi
        rw [hx p i oi hi hoi, hx q j' oj' hj' hoj'] at h4
        exact .inr h4
    · obtain ⟨hju2, oj2, hoj2, _⟩ := mem_ready.1 hj2
      have hlt2 : j2 < ops.size := (Array.getElem?_eq_some_iff.1 hoj2).1
      exfalso
      rcases Nat.lt_or_ge j j2 with h4 | h4
      · rcases zall j2 h4 hlt2 with h5 | h5
        · exact hj2x (List.mem_append.2 (.inl h5))
        · exact hj2x (List.mem_append.2 (.inr h5))
      · have := hD2 j2 hj2x
        rw [decide_eq_true h4, Array.getD_eq_getD_getElem?, Array.getElem?_eq_getElem (by omega)] at this
        rw [Array.getD_eq_getD_getElem?, Array.getElem?_eq_getElem (by omega)] at hju2
        simp at this hju2
        rw [this] at hju2; cases hju2
    · rw [endS_app _ _ _ _ _ (by simpa using hlF)] at h
      obtain ⟨e1, e2⟩ := endS_congr (zb.map (·.2)) esB s2 _ hend.1 hend.2
      exact hR E _ a w (h.congr (fun t => (e1 t).symm) (fun k => (e2 k).symm)) hk
    · by_cases hij : i = j
      · subst hij
        rw [ho] at hoi
        cases hoi
        exact getD_set_true (hready e he hb)
      · simp only [hset i hij] at hi
        exact getD_set_true (hcl i oi hoi hi e he hb)
    · rw [List.mem_append, not_or] at hi
      rcases Nat.lt_trichotomy i j with h4 | h4 | h4
      · rw [hset i (by omega), decide_eq_true (by omega)]
        rcases Nat.lt_or_ge i lo with h5 | h5
        · rw [hD i (fun hm => by
            rcases List.mem_append.1 hm with h6 | h6
            · have := List.mem_range'_1.1 h6; omega
            · have := (zfc _ h6).1; omega)]
          exact decide_eq_true h5
        · have := hdone (i - lo) (by omega)
          rwa [show lo + (i - lo) = i by omega] at this
      · subst h4; rw [hsetj, decide_eq_true (Nat.le_refl _)]
      · rw [decide_eq_false (by omega)]
        rcases Nat.lt_or_ge i ops.size with h5 | h5
        · rcases zall i h4 h5 with h6 | h6
          · exact (hi.1 h6).elim
          · exact (hi.2 h6).elim
        · rw [Array.getD_eq_getD_getElem?, Array.getElem?_eq_none (by simp; omega)]; rfl
  · have hcx : c ∉ List.range' lo l1.length ++ zf.map (·.1) := fun hm => by
      rcases List.mem_append.1 hm with h1 | h1
      · have := List.mem_range'_1.1 h1; omega
      · have := (zfc _ h1).1; omega
    have := hD c hcx
    rw [hall c hclt, decide_eq_false (by omega)] at this
    cases this
  · rw [List.mem_append, not_or] at hi
    rcases Nat.lt_or_ge i lo with h4 | h4
    · rw [decide_eq_true h4]; exact hA i h4
    · rw [decide_eq_false (by omega)]; exact hB i h4

theorem drawn_run (hP : CxOk P cx) {ops : Array Oper} {id : Nat} {K : St → Prop} (hR : ∀ E s a w, Rel P cx.nt B M I0 G w0 E s a w → K s → Q .normal a w) (hedge : ∀ i o, ops.toList[i]? = some o → edgesOk o i = true) :
    ∀ (r : List Oper) (lo : Nat) (l1 : List Oper) (es1 : List Eff) (s0 : St), (∀ k, (l1 ++ r)[k]? = ops.toList[lo + k]?) → Path cx ops.toList l1 s0 es1 →
      wpRD cx id ops.toList (befN ops.toList []) K r lo (lo + l1.length) (endS l1 es1 s0) (endF lo es1 []) →
      ∀ (fuel : Nat) (listed : Array Bool) (E : Env) (a : Act) (w : World), listed.size = ops.size → toCome ops.size listed = fuel → Closed ops.toList (fun i => listed.getD i false) → (∀ i, i < lo → listed.getD i false = true) → (∀ i, lo ≤ i → listed.getD i false = false) →
        Rel P cx.nt B M I0 G w0 E s0 a w → lo ≤ ops.size → wpAny P .any ops Q fuel listed a w
  | [], lo, l1, es1, s0, hl, hp, hr, fuel, listed, E, a, w, hsz, hc, hcl, hA, hB, h, hlo => by
    have hlen := path_length ops.toList l1 s0 es1 hp
    have hsize : lo + l1.length = ops.size := by
      have h1 := hl l1.length
      rw [List.append_nil, List.getElem?_eq_none (Nat.le_refl _)] at h1
      have h2 : ops.size ≤ lo + l1.length := by have := List.getElem?_eq_none_iff.1 h1.symm; simpa using this
      rcases Nat.eq_zero_or_pos l1.length with h3 | h3
      · omega
      · have h4 := hl (l1.length - 1)
        rw [List.append_nil, List.getElem?_eq_getElem (by omega)] at h4
        have := (List.getElem?_eq_some_iff.1 h4.symm).1
        simp at this; omega
    unfold wpRD at hr
    have e0 : lo + l1.length - lo = l1.length := by omega
    rw [e0] at hr
    split at hr
    · rename_i hind
      refine seg_run hP (lo := lo) (hi := lo + l1.length) (l := l1) (es := es1) (s0 := s0) (by omega) (by omega) (by omega) (fun k hk => by have := hl k; rwa [List.append_nil] at this) hp hedge
        (indS_get hind rfl hlen (fun k hk => by have := hl k; rwa [List.append_nil] at this)) (fun j h1 h2 => by omega) (fun fuel listed E a w hsz hc hcl hA hB h => ?_) fuel listed E a w hsz hc hcl hA (fun i hi => hB i (by omega)) (h.congr (fun t => ?_) (fun c => ?_))
      · have hall : ∀ i, i < ops.size → listed.getD i false = true := fun i hi => hA i (by omega)
        have hnone : ∀ j, j ∈ Region.ready .any ops listed → False := fun j hj => by
          obtain ⟨h1, ox, hox, _⟩ := mem_ready.1 hj
          have hlt : j < ops.size := (Array.getElem?_eq_some_iff.1 hox).1
          have := hall j hlt
          rw [Array.getD_eq_getD_getElem?, Array.getElem?_eq_getElem (by omega)] at this h1
          simp at this h1
          rw [this] at h1; cases h1
        cases fuel with
        | zero => exact ⟨List.eq_nil_iff_forall_not_mem.2 (fun j hj => hnone j hj), hR _ _ _ _ h hr⟩
        | succ fuel => exact ⟨fun _ => hR _ _ _ _ h hr, fun j hj => (hnone j hj).elim⟩
      · rw [sel_tm (D' := fun _ => false) l1 es1 lo s0 s0 rfl (fun j o' _ _ => hB _ (by omega)), sel_none]
      · rw [sel_mem (D' := fun _ => false) l1 es1 lo s0 s0 rfl (fun j o' _ _ => hB _ (by omega)), sel_none]
    · exact hr.elim
  | o :: r, lo, l1, es1, s0, hl, hp, hr, fuel, listed, E, a, w, hsz, hc, hcl, hA, hB, h, hlo => by
    have hlen := path_length ops.toList l1 s0 es1 hp
    have ho : ops.toList[lo + l1.length]? = some o := by
      have := hl l1.length
      rw [List.getElem?_append_right (Nat.le_refl _), Nat.sub_self] at this
      simpa using this.symm
    have hlt : lo + l1.length < ops.size := by have := (List.getElem?_eq_some_iff.1 ho).1; simpa using this
    have hl' : ∀ k, ((l1 ++ [o]) ++ r)[k]? = ops.toList[lo + k]? := fun k => by rw [List.append_assoc]; exact hl k
    have go : ∀ e, dOk cx o.dst = true → Step cx ops.toList (endS l1 es1 s0) o e → wpRD cx id ops.toList (befN ops.toList []) K r lo (lo + l1.length + 1) (upd (endS l1 es1 s0) o.dst e.v e.ch) ((lo + l1.length, e) :: endF lo es1 []) → wpAny P .any ops Q fuel listed a w := fun e hd hs hk => by
      obtain ⟨q1, q2⟩ := path_app ops.toList l1 s0 es1 o e hp hd hs
      refine drawn_run (id := id) hP hR hedge r lo (l1 ++ [o]) (es1 ++ [e]) s0 hl' q1 ?_ fuel listed E a w hsz hc hcl hA hB h hlo
      rw [q2, endF_app, hlen, List.length_append, List.length_singleton, ← Nat.add_assoc]
      exact hk
    unfold wpRD at hr
    split at hr
    · rename_i T as hin
      split at hr
      · rename_i hd hw
        have e0 : lo + l1.length - lo = l1.length := by omega
        rw [e0] at hr
        split at hr
        · rename_i hind hbar
          unfold barB at hbar
          rw [Bool.and_eq_true, List.all_eq_true, List.all_eq_true] at hbar
          obtain ⟨hb1, hb2⟩ := hbar
          have hla : ∀ k, k < l1.length → l1[k]? = ops.toList[lo + k]? := fun k hk => by
            have := hl k
            rwa [List.getElem?_append_left hk] at this
          have hbj : ∀ j, lo + l1.length < j → j < ops.size → ((befN ops.toList []).getD j 0).testBit (lo + l1.length) = true := fun j h1 h2 => by
            have := hb2 j (List.mem_range.2 (by simpa using h2))
            rw [Bool.or_eq_true] at this
            rcases this with h3 | h3
            · have := Nat.le_of_ble_eq_true h3; omega
            · exact h3
          refine seg_run hP (lo := lo) (hi := lo + l1.length) (l := l1) (es := es1) (s0 := s0) (by omega) (by omega) (by omega) (fun k hk => hla k (by omega)) hp hedge
            (indS_get hind rfl hlen hla) (fun j h1 h2 => ?_) (fun fuel listed E a w hsz hc hcl hA hB h => ?_) fuel listed E a w hsz hc hcl hA (fun i hi => hB i (by omega)) (h.congr (fun t => ?_) (fun c => ?_))
          · rcases Nat.lt_or_ge (lo + l1.length) j with h3 | h3
            · exact .inr ⟨h3, hbj j h3 h2⟩
            · refine .inl ⟨by omega, fun i h4 h5 => ?_⟩
              have := hb1 (i - lo) (List.mem_range.2 (by omega))
              have e1 : lo + (i - lo) = i := by omega
              rwa [e1] at this
          · have hcf := hB (lo + l1.length) (Nat.le_refl _)
            have hcr : (lo + l1.length) ∈ Region.ready .any ops listed := by
              rw [mem_ready]
              refine ⟨?_, o, by simpa using ho, fun e he hb => ?_⟩
              · rw [Array.getD_eq_getD_getElem?, Array.getElem?_eq_getElem (by omega)] at hcf ⊢
                simpa using hcf
              · have hed := hedge _ o ho
                unfold edgesOk at hed
                rw [List.all_eq_true] at hed
                have := hed e (by simpa using he)
                rw [hb] at this
                have hlt : e.on < lo + l1.length := by simpa [Nat.blt_eq] using this
                exact hA e.on hlt
            have honly : ∀ j, j ∈ Region.ready .any ops listed → j = lo + l1.length ∧ listed.getD j true = false := fun j hj => by
              obtain ⟨hju, oj, hoj, hdep⟩ := mem_ready.1 hj
              have hjlt : j < ops.size := (Array.getElem?_eq_some_iff.1 hoj).1
              have hjf : listed.getD j false = false := by
                rw [Array.getD_eq_getD_getElem?, Array.getElem?_eq_getElem (by omega)] at hju ⊢
                simpa using hju
              refine ⟨?_, hju⟩
              rcases Nat.lt_trichotomy j (lo + l1.length) with h1 | h1 | h1
              · rw [hA j h1] at hjf; cases hjf
              · exact h1
              · have hready : Ready oj (fun i => listed.getD i false) := fun e he hb => hdep e (by simpa using he) hb
                have := befN_bit hcl hedge ops.toList 0 [] (by simp) rfl (fun j o h => by omega) j oj (by simpa using hoj) hready _ (hbj j h1 hjlt)
                rw [hcf] at this; cases this
            have hju := (honly _ hcr).2
            have hset : ∀ k, k ≠ lo + l1.length → (listed.setIfInBounds (lo + l1.length) true).getD k false = listed.getD k false := fun k hk => getD_set_ne false (Ne.symm hk)
            have hsetj : (listed.setIfInBounds (lo + l1.length) true).getD (lo + l1.length) false = true := by simp [Array.getD_eq_getD_getElem?, hsz, hlt]
            cases fuel with
            | zero =>
              have := toCome_zero hsz hc _ hlt
              rw [hcf] at this; cases this
            | succ fuel =>
              refine ⟨fun hnone => (by rw [hnone] at hcr; cases hcr), fun j hj => ?_⟩
              obtain ⟨rfl, _⟩ := honly j hj
              unfold wpOp
              have ho' : ops[lo + l1.length]? = some o := by simpa using ho
              simp only [ho']
              rw [if_pos (wantB_run h hw)]
              refine .inl (inl_wp hP h (inlD_some hin) hd hr (fun E' s' a' w' h' hk => ?_))
              refine drawn_run (id := id) hP hR hedge r (lo + l1.length + 1) [] [] s' (fun k => ?_) rfl hk fuel _ E' a' w' (by simp [hsz]) (by have := toCome_set hsz hju; omega) (fun i oi hoi hi e he hb => ?_) (fun i hi => ?_) (fun i hi => by rw [hset i (by omega)]; exact hB i (by omega)) h' (by omega)
              · have := hl (l1.length + 1 + k)
                rw [List.getElem?_append_right (by omega), show l1.length + 1 + k - l1.length = k + 1 by omega, List.getElem?_cons_succ] at this
                rw [List.nil_append, this]
                congr 1; omega
              · by_cases hij : i = lo + l1.length
                · subst hij
                  rw [ho] at hoi
                  cases hoi
                  have hed := hedge _ o ho
                  unfold edgesOk at hed
                  rw [List.all_eq_true] at hed
                  have := hed e he
                  rw [hb] at this
                  have hlt : e.on < lo + l1.length := by simpa [Nat.blt_eq] using this
                  exact getD_set_true (hA e.on hlt)
                · simp only [hset i hij] at hi
                  exact getD_set_true (hcl i oi hoi hi e he hb)
              · by_cases hij : i = lo + l1.length
                · subst hij; exact hsetj
                · rw [hset i hij]; exact hA i (by omega)
          · rw [sel_tm (D' := fun _ => false) l1 es1 lo s0 s0 rfl (fun j o' _ _ => hB _ (by omega)), sel_none]
          · rw [sel_mem (D' := fun _ => false) l1 es1 lo s0 s0 rfl (fun j o' _ _ => hB _ (by omega)), sel_none]
        · exact float_run (id := id) hP hR hedge rfl hl hp (inlD_some hin) hd hw hr fuel listed E a w hsz hc hcl hA hB h
        · exact hr.elim
      · rename_i hd hw
        exact go ⟨none, .und, [], []⟩ hd (.inr ⟨hw, rfl, rfl, rfl⟩) hr
      · exact hr.elim
    · obtain ⟨es, hp', hk⟩ := wpR_path _ _ _ _ _ _ hr
      obtain ⟨e, es', rfl, hd, hs, hp''⟩ := hp'
      have : es' = [] := hp''
      subst this
      exact go e hd hs hk

theorem regionD_run (hP : CxOk P cx) {ops : Array Oper} {id : Nat} {K : St → Prop} (hR : ∀ E s a w, Rel P cx.nt B M I0 G w0 E s a w → K s → Q .normal a w) (h : Rel P cx.nt B M I0 G w0 E s a w) (he : edgB ops.toList = true) (hr : wpRD cx id ops.toList (befN ops.toList []) K ops.toList 0 0 s []) :
    (Code.region id ops true).wp P Q a w := by
  refine wp_region_any hP.mixed ?_
  have h0 : ∀ i, (Array.replicate ops.size false).getD i false = false := fun i => by
    simp only [Array.getD_eq_getD_getElem?, Array.getElem?_replicate]
    split <;> rfl
  have hc : ∀ n, toCome n (Array.replicate n false) = n := fun n => by
    unfold toCome
    rw [List.filter_eq_self.2 (fun i hi => by
      have := List.mem_range.1 hi
      simp [Array.getD_eq_getD_getElem?, this])]
    simp
  exact drawn_run (id := id) hP hR (edgB_get he) ops.toList 0 [] [] s (fun k => by rw [List.nil_append, Nat.zero_add]) rfl hr ops.size (Array.replicate ops.size false) E a _ (by simp) (hc ops.size) (fun i oi _ hi => by simp only [h0] at hi; cases hi) (fun i hi => by omega) (fun i _ => h0 i) h.drew (Nat.zero_le _)
end
end Go.Rx

/- The framework, part 21: code, from a state that is written out. -/
namespace Go.Rx
set_option linter.unusedSectionVars false
open Go.RowKit

/-- What is asked at an exit, in a run. -/
def QR (P : Program) [Laid P] (cx : Cx) (B : Nat) (M I0 : Nat → Prop) (G : Nat → Value) (w0 : World) (Q : Ex → St → Prop) : Exit → Act → World → Prop
  | .normal, a, w => ∃ E s, Rel P cx.nt B M I0 G w0 E s a w ∧ Q .normal s
  | .ret, a, w => ∃ E s, Rel P cx.nt B M I0 G w0 E s a w ∧ Q .ret s
  | .exit id, a, w => ∃ E s, Rel P cx.nt B M I0 G w0 E s a w ∧ Q (.exit id) s
  | .goto l, a, w => ∃ E s, Rel P cx.nt B M I0 G w0 E s a w ∧ Q (.goto l) s
  | _, _, _ => False

/-- What is known at a head, in a run, at a number. -/
def HR (P : Program) [Laid P] (cx : Cx) (B : Nat) (M I0 : Nat → Prop) (G : Nat → Value) (w0 : World) (A : Ann) (n : Nat) (a : Act) (w : World) : Prop :=
  ∃ (x : A.ι) (E : Env), A.p x ∧ n = A.μ x ∧ Rel P cx.nt B M I0 G w0 E (A.F x) a w

section
variable {cx : Cx} {P : Program} [Laid P] {B : Nat} {M I0 : Nat → Prop} {G : Nat → Value} {w0 : World} {a : Act} {w : World} {Q Q' : Ex → St → Prop}

theorem QR.mono (hq : ∀ e s, Q e s → Q' e s) : ∀ e a w, QR P cx B M I0 G w0 Q e a w → QR P cx B M I0 G w0 Q' e a w := by
  intro e a w h
  cases e with
  | normal => obtain ⟨E, s, h1, h2⟩ := h; exact ⟨E, s, h1, hq _ _ h2⟩
  | ret => obtain ⟨E, s, h1, h2⟩ := h; exact ⟨E, s, h1, hq _ _ h2⟩
  | exit id => obtain ⟨E, s, h1, h2⟩ := h; exact ⟨E, s, h1, hq _ _ h2⟩
  | goto l => obtain ⟨E, s, h1, h2⟩ := h; exact ⟨E, s, h1, hq _ _ h2⟩
  | panic ch => exact h.elim
  | outgrown => exact h.elim

theorem atHead_HR {A : Ann} {q : A.ι → Prop} {E : Env} {s : St} (h : Rel P cx.nt B M I0 G w0 E s a w) (ha : atHead A s q) : ∃ x E', A.p x ∧ q x ∧ Rel P cx.nt B M I0 G w0 E' (A.F x) a w := by
  unfold atHead at ha
  rw [forceD_eq, forceD_eq] at ha
  obtain ⟨x, hx⟩ := ha
  obtain ⟨h1, h2⟩ := andL_app hx
  obtain ⟨h3, h4, _⟩ : A.p x ∧ q x ∧ True := h2
  obtain ⟨E', h'⟩ := h.nilc A.nc
  exact ⟨x, E', h3, h4, (h'.keep A.kt A.km).eqSt h1⟩

theorem brP_run {x : Bool} {p q : Prop} (h : brP x p q) : (x = true ∧ p) ∨ (x = false ∧ q) := by
  cases x with
  | true => exact .inl ⟨rfl, h.1 rfl⟩
  | false => exact .inr ⟨rfl, h.2 rfl⟩

/-- What a scope's rule must be good for. -/
def ScOk (P : Program) [Laid P] (cx : Cx) (B : Nat) (M I0 : Nat → Prop) (G : Nat → Value) (w0 : World) (sc : Code → Nat → St → (Ex → St → Prop) → Prop) : Prop :=
  ∀ (c : Code) (bl : Nat) (s : St) (Q : Ex → St → Prop) (E : Env) (a : Act) (w : World), Rel P cx.nt B M I0 G w0 E s a w → sc c bl s Q → (Code.scope c).wp P (QR P cx B M I0 G w0 Q) a w

theorem noSc_ok : ScOk P cx B M I0 G w0 noSc := fun _ _ _ _ _ _ _ _ h => h.elim

theorem Rel.keepS {E : Env} {s : St} (h : Rel P cx.nt B M I0 G w0 E s a w) (A : Ann) (ks : List Nat) : Rel P cx.nt B M I0 G w0 E (keepS A ks s) a w := by
  unfold Rx.keepS
  split
  · split
    · exact h
    · exact h.keep _ _
  · exact h.keep _ _

/-- What is asked where roads join is good for what comes behind. -/
def JOk (P : Program) [Laid P] (cx : Cx) (B : Nat) (M I0 : Nat → Prop) (G : Nat → Value) (w0 : World) (J : Option (Nat × (St → Prop))) (c : Code) (Q : Ex → St → Prop) : Prop :=
  ∀ k hk, J = some (k, hk) → ∀ d, findT k c = some d → ∀ (E : Env) (s : St) (a : Act) (w : World), Rel P cx.nt B M I0 G w0 E s a w → hk s → d.wp P (QR P cx B M I0 G w0 Q) a w
theorem JOk.none {c : Code} {Q : Ex → St → Prop} : JOk P cx B M I0 G w0 .none c Q := fun _ _ h => by cases h

mutual
theorem wpJ_run (hP : CxOk P cx) {sc : Code → Nat → St → (Ex → St → Prop) → Prop} (hsc : ScOk P cx B M I0 G w0 sc) :
    ∀ (c : Code) (An : Nat → Option Ann) (J : Option (Nat × (St → Prop))) (bl : Nat) (s : St) (Q : Ex → St → Prop) (E : Env) (a : Act) (w : World), JOk P cx B M I0 G w0 J c Q → Rel P cx.nt B M I0 G w0 E s a w → wpJ cx sc c An J bl s Q → c.wp P (QR P cx B M I0 G w0 Q) a w
  | .skip, An, _, _, s, Q, E, a, w, _hJ0, h, hc => by
    simp only [wpJ] at hc
    exact wp_skip ⟨E, s, h, hc⟩
  | .label _, An, _, _, s, Q, E, a, w, _hJ0, h, hc => by
    simp only [wpJ] at hc
    exact wp_label ⟨E, s, h, hc⟩
  | .region id ops false, An, _, _, s, Q, E, a, w, _hJ0, h, hc => by
    simp only [wpJ] at hc
    exact regionI_run (K := fun s => Q .normal s) hP (fun E s a w h hr => ⟨E, s, h, hr⟩) h hc
  | .region id ops true, An, _, _, s, Q, E, a, w, _hJ0, h, hc => by
    simp only [wpJ] at hc
    split at hc
    · rename_i hed
      exact regionD_run (K := fun s => Q .normal s) hP (fun E s a w h hr => ⟨E, s, h, hr⟩) h hed hc
    · exact hc.elim
  | .seq x y, An, J, bl, s, Q, E, a, w, hJ, h, hc => by
    have step : ∀ (N : St → Prop), (∀ E' s' a' w', Rel P cx.nt B M I0 G w0 E' s' a' w' → N s' → y.wp P (QR P cx B M I0 G w0 Q) a' w') → wpJ cx sc x An none bl s (fun e s => match e with
        | .normal => N s
        | e => Q e s) → (Code.seq x y).wp P (QR P cx B M I0 G w0 Q) a w := fun N hN hc => by
      refine wp_seq (wp_mono (wpJ_run hP hsc x An none bl s _ E a w JOk.none h hc) (fun e a w hq => ?_))
      cases e with
      | normal => obtain ⟨E', s', h1, h2⟩ := hq; exact hN E' s' a w h1 h2
      | ret => exact hq
      | exit id => exact hq
      | goto l => exact hq
      | panic ch => exact hq.elim
      | outgrown => exact hq.elim
    cases J with
    | some J =>
      obtain ⟨k, hk⟩ := J
      simp only [wpJ] at hc
      cases hr : isR k y with
      | true =>
        simp only [hr] at hc
        exact step _ (fun E' s' a' w' h1 h2 => hJ k hk rfl y (by simp only [findT, hr]) E' s' a' w' h1 h2) hc
      | false =>
        simp only [hr] at hc
        exact step _ (fun E' s' a' w' h1 h2 => wpJ_run hP hsc y An (some (k, hk)) bl s' Q E' a' w' (fun k' hk' e d hd => by
          cases e
          exact hJ k hk rfl d (by simp only [findT, hr]; exact hd)) h1 (by rw [forceD_eq] at h2; exact h2)) hc
    | none =>
      simp only [wpJ] at hc
      cases hs : spineJ An y with
      | none =>
        simp only [hs] at hc
        exact step _ (fun E' s' a' w' h1 h2 => wpJ_run hP hsc y An (some (999999999, fun _ => False)) bl s' Q E' a' w' (fun k' hk' e d hd => by
          cases e
          exact fun _ _ _ _ _ hf => hf.elim) h1 (by rw [forceD_eq] at h2; exact h2)) hc
      | some kA =>
        obtain ⟨k, A⟩ := kA
        simp only [hs] at hc
        cases hr : isR k y with
        | true =>
          simp only [hr] at hc
          refine step _ (fun E' s' a' w' h1 h2 => ?_) hc.1
          obtain ⟨z, E2, hz, _, hrel⟩ := atHead_HR h1 h2
          exact wpJ_run hP hsc y _ none bl (A.F z) Q E2 a' w' JOk.none hrel (hc.2 z hz)
        | false =>
          simp only [hr] at hc
          refine step _ (fun E' s' a' w' h1 h2 => wpJ_run hP hsc y An (some (k, fun s => atHead A s (fun _ => True))) bl s' Q E' a' w' (fun k' hk' e d hd => ?_) h1 (by rw [forceD_eq] at h2; exact h2)) hc.1
          cases e
          intro E3 s3 a3 w3 h3 h4
          obtain ⟨z, E2, hz, _, hrel⟩ := atHead_HR h3 h4
          exact wpAt_run hP hsc y k _ bl (A.F z) Q E2 a3 w3 hrel (hc.2 z hz) d hd
  | .cond c x y, An, _, bl, s, Q, E, a, w, _hJ0, h, hc => by
    simp only [wpJ] at hc
    have hv := h.eval c
    split at hc
    · rename_i e; rw [e] at hv
      exact wp_cond_true hv.inv_tt (wpJ_run hP hsc x _ none bl s Q E a w JOk.none h hc)
    · rename_i e; rw [e] at hv
      exact wp_cond_false hv.inv_ff (wpJ_run hP hsc y _ none bl s Q E a w JOk.none h hc)
    · rename_i b e
      split at hc
      · rename_i t
        have hb := hv
        rw [e] at hb
        have hb := hb.inv_bool
        have upd' : ∀ (v : SV), CV E (lkO s.mem) w (a.tmps.getD t undef) v → Rel P cx.nt B M I0 G w0 E ⟨(t, v) :: s.tm, s.mem⟩ a w := fun v hv => by
          refine ⟨h.defers, h.tsize, h.fr, h.base, h.i0, h.inew, h.loc, h.inj, fun t' => ?_, h.ch, h.ld, h.gv⟩
          dsimp only
          rw [lk_cons]
          by_cases e : t = t'
          · subst e; rw [if_pos rfl]; exact hv
          · rw [if_neg e]; exact h.tm t'
        have hc' : b = b → ((b = true ∧ wpJ cx sc x An none bl ⟨(t, .tt) :: s.tm, s.mem⟩ Q) ∨ (b = false ∧ wpJ cx sc y An none bl ⟨(t, .ff) :: s.tm, s.mem⟩ Q)) := fun _ => by
          split at hc
          · split at hc
            · exact .inl ⟨rfl, hc⟩
            · exact .inr ⟨rfl, hc⟩
          · exact brP_run hc
        rcases hc' rfl with ⟨hx, hd⟩ | ⟨hx, hd⟩
        · subst hx
          refine wp_cond_true hb (wpJ_run hP hsc x _ none bl _ Q E a w JOk.none (upd' .tt ?_) hd)
          have : a.tmps.getD t undef = .bool true := hb
          rw [this]; exact .conc _ _ .tt
        · subst hx
          refine wp_cond_false hb (wpJ_run hP hsc y _ none bl _ Q E a w JOk.none (upd' .ff ?_) hd)
          have : a.tmps.getD t undef = .bool false := hb
          rw [this]; exact .conc _ _ .ff
      · exact hc.elim
    · rename_i l e
      split at hc
      · rename_i t
        have hb := hv
        rw [e] at hb
        obtain ⟨b, hb, hbl⟩ := hb.inv_nb
        have upd' : ∀ (v : SV), CV E (lkO s.mem) w (a.tmps.getD t undef) v → Rel P cx.nt B M I0 G w0 E ⟨(t, v) :: s.tm, s.mem⟩ a w := fun v hv => by
          refine ⟨h.defers, h.tsize, h.fr, h.base, h.i0, h.inew, h.loc, h.inj, fun t' => ?_, h.ch, h.ld, h.gv⟩
          dsimp only
          rw [lk_cons]
          by_cases e : t = t'
          · subst e; rw [if_pos rfl]; exact hv
          · rw [if_neg e]; exact h.tm t'
        have hc' : (b = true → l = [] ∧ wpJ cx sc x An none bl ⟨(t, .tt) :: s.tm, s.mem⟩ Q) ∧ (b = false → wpJ cx sc y An none bl ⟨(t, .ff) :: s.tm, s.mem⟩ Q) := by
          split at hc
          · rename_i hp
            refine ⟨fun hbt => ?_, fun _ => hc⟩
            have hl := hbl hbt
            rw [hl] at hp
            unfold plNe at hp
            split at hp <;> cases hp
          · exact ⟨fun hbt => ⟨hbl hbt, hc.1 (hbl hbt)⟩, fun _ => hc.2⟩
        cases b with
        | true =>
          refine wp_cond_true hb (wpJ_run hP hsc x _ none bl _ Q E a w JOk.none (upd' .tt ?_) (hc'.1 rfl).2)
          have : a.tmps.getD t undef = .bool true := hb
          rw [this]; exact .conc _ _ .tt
        | false =>
          refine wp_cond_false hb (wpJ_run hP hsc y _ none bl _ Q E a w JOk.none (upd' .ff ?_) (hc'.2 rfl))
          have : a.tmps.getD t undef = .bool false := hb
          rw [this]; exact .conc _ _ .ff
      · exact hc.elim
    · exact hc.elim
  | .block id c, An, _, _, s, Q, E, a, w, _hJ0, h, hc => by
    simp only [wpJ] at hc
    refine wp_block (wp_mono (wpJ_run hP hsc c _ none id s _ E a w JOk.none h hc) (fun e a w hq => ?_))
    cases e with
    | normal => exact hq
    | ret => exact hq
    | exit j =>
      obtain ⟨E', s', h1, h2⟩ := hq
      simp only [Exit.inBlock]
      dsimp only at h2
      split at h2
      · rename_i e
        rw [if_pos (Nat.eq_of_beq_eq_true e)]
        exact ⟨E', s', h1, h2⟩
      · rename_i e
        rw [if_neg (fun e' => by subst e'; rw [Nat.beq_refl] at e; cases e)]
        exact ⟨E', s', h1, h2⟩
    | goto l => exact hq
    | panic ch => exact hq.elim
    | outgrown => exact hq.elim
  | .loop c, An, _, bl, s, Q, E, a, w, _hJ0, h, hc => by
    simp only [wpJ] at hc
    split at hc
    · rename_i A hA
      obtain ⟨h0, hr⟩ := hc
      obtain ⟨x, E', hx, _, hrel⟩ := atHead_HR h h0
      refine wp_loop_ghost (HR P cx B M I0 G w0 A) (A.μ x) ⟨x, E', hx, rfl, hrel⟩ (fun n a w hI => ?_)
      obtain ⟨y, E2, hy, rfl, hrel2⟩ := hI
      refine wp_mono (wpJ_run hP hsc c _ none bl (A.F y) _ E2 a w JOk.none hrel2 (hr y hy)) (fun e a w hq => ?_)
      cases e with
      | normal =>
        obtain ⟨E3, s3, h3, h4⟩ := hq
        obtain ⟨z, E4, hz, hlt, hrel4⟩ := atHead_HR h3 h4
        exact ⟨A.μ z, hlt, z, E4, hz, rfl, hrel4⟩
      | ret => exact hq
      | exit id => exact hq
      | goto l => exact hq
      | panic ch => exact hq.elim
      | outgrown => exact hq.elim
    · split at hc
      · rename_i A hA
        refine wp_loop_rounds A.nc.length ?_
        have key : ∀ (ks : List Nat) (k : Nat) (s : St) (E : Env) (a : Act) (w : World), Rel P cx.nt B M I0 G w0 E s a w → unrollL A ks (wpJ cx sc c An none bl) Q k s → Code.rounds P c (QR P cx B M I0 G w0 Q) k a w := by
          intro ks k
          induction k with
          | zero => intro s E a w h hc; exact hc.elim
          | succ k ih =>
            intro s E a w h hc
            rw [rounds_succ]
            refine wp_mono (wpJ_run hP hsc c _ none bl s _ E a w JOk.none h hc) (fun e a w hq => ?_)
            cases e with
            | normal => obtain ⟨E', s', h1, h2⟩ := hq; exact ih _ E' a w (h1.keepS A ks) (by dsimp only at h2; rw [forceS_eq] at h2; exact h2)
            | ret => exact hq
            | exit id => exact hq
            | goto l => exact hq
            | panic ch => exact hq.elim
            | outgrown => exact hq.elim
        exact key _ _ s E a w h hc
      · exact hc.elim
  | .scope c, An, _, bl, s, Q, E, a, w, _hJ0, h, hc => by
    simp only [wpJ] at hc
    exact hsc c bl s Q E a w h hc
  | .exit id, An, _, _, s, Q, E, a, w, _hJ0, h, hc => by
    simp only [wpJ] at hc
    exact wp_exit ⟨E, s, h, hc⟩
  | .goto l, An, _, _, s, Q, E, a, w, _hJ0, h, hc => by
    simp only [wpJ] at hc
    exact wp_goto ⟨E, s, h, hc⟩
  | .ret, An, _, _, s, Q, E, a, w, _hJ0, h, hc => by
    simp only [wpJ] at hc
    exact wp_ret ⟨E, s, h, hc⟩
  | .rangeFunc _ _ _ _, _, _, _, _, _, _, _, _, _, _, hc => by simp only [wpJ] at hc
  | .refuse _, _, _, _, _, _, _, _, _, _, _, hc => by simp only [wpJ] at hc
theorem wpAt_run (hP : CxOk P cx) {sc : Code → Nat → St → (Ex → St → Prop) → Prop} (hsc : ScOk P cx B M I0 G w0 sc) :
    ∀ (c : Code) (k : Nat) (An : Nat → Option Ann) (bl : Nat) (s : St) (Q : Ex → St → Prop) (E : Env) (a : Act) (w : World), Rel P cx.nt B M I0 G w0 E s a w → wpAt cx sc c k An bl s Q → ∀ d, findT k c = some d → d.wp P (QR P cx B M I0 G w0 Q) a w
  | .seq x y, k, An, bl, s, Q, E, a, w, h, hc, d, hd => by
    simp only [wpAt] at hc
    simp only [findT] at hd
    cases hr : isR k y with
    | true =>
      simp only [hr] at hc hd
      cases hd
      exact wpJ_run hP hsc y An none bl s Q E a w JOk.none h hc
    | false =>
      simp only [hr] at hc hd
      exact wpAt_run hP hsc y k An bl s Q E a w h hc d hd
  | .skip, _, _, _, _, _, _, _, _, _, hc, _, _ => by simp only [wpAt] at hc
  | .label _, _, _, _, _, _, _, _, _, _, hc, _, _ => by simp only [wpAt] at hc
  | .region _ _ _, _, _, _, _, _, _, _, _, _, hc, _, _ => by simp only [wpAt] at hc
  | .cond _ _ _, _, _, _, _, _, _, _, _, _, hc, _, _ => by simp only [wpAt] at hc
  | .block _ _, _, _, _, _, _, _, _, _, _, hc, _, _ => by simp only [wpAt] at hc
  | .loop _, _, _, _, _, _, _, _, _, _, hc, _, _ => by simp only [wpAt] at hc
  | .scope _, _, _, _, _, _, _, _, _, _, hc, _, _ => by simp only [wpAt] at hc
  | .exit _, _, _, _, _, _, _, _, _, _, hc, _, _ => by simp only [wpAt] at hc
  | .goto _, _, _, _, _, _, _, _, _, _, hc, _, _ => by simp only [wpAt] at hc
  | .ret, _, _, _, _, _, _, _, _, _, hc, _, _ => by simp only [wpAt] at hc
  | .rangeFunc _ _ _ _, _, _, _, _, _, _, _, _, _, hc, _, _ => by simp only [wpAt] at hc
  | .refuse _, _, _, _, _, _, _, _, _, _, hc, _, _ => by simp only [wpAt] at hc
end

theorem wpC_run (hP : CxOk P cx) {An : Nat → Option Ann} {sc : Code → Nat → St → (Ex → St → Prop) → Prop} (hsc : ScOk P cx B M I0 G w0 sc) (c : Code) (bl : Nat) (s : St) (Q : Ex → St → Prop) (E : Env) (a : Act) (w : World) (h : Rel P cx.nt B M I0 G w0 E s a w) (hc : wpC cx An sc c bl s Q) : c.wp P (QR P cx B M I0 G w0 Q) a w :=
  wpJ_run hP hsc c An none bl s Q E a w JOk.none h hc
end
end Go.Rx

/- The framework, part 22: a scope with its labels; a function. -/
namespace Go.Rx
set_option linter.unusedSectionVars false
open Go.RowKit

section
variable {cx : Cx} {P : Program} [Laid P] {B : Nat} {M I0 : Nat → Prop} {G : Nat → Value} {w0 : World} {E : Env} {s : St} {a : Act} {w : World}

/-- By a goto to one of these labels: J, of that label. -/
def jumps (labs : List Nat) (J : Nat → Act → World → Prop) (Q : Exit → Act → World → Prop) : Exit → Act → World → Prop
  | .goto l, a, w => l ∈ labs ∧ J l a w
  | e, a, w => Q e a w

/-- A scope in which the run jumps to several labels: what holds at each, at a number; every pass lowers the number. -/
theorem wp_scope_labels {c : Code} {Q : Exit → Act → World → Prop} (labs : List Nat) (J : Nat → Nat → Act → World → Prop) (hf : ∀ l, l ∈ labs → ∃ rest, findLabel c l = some rest ∧
      ∀ n a w, J l n a w → rest.wp P (jumps labs (fun l' a' w' => ∃ n', n' < n ∧ J l' n' a' w') Q) a w)
    (first : c.wp P (jumps labs (fun l a w => ∃ n, J l n a w) Q) a w) : (Code.scope c).wp P Q a w := by
  intro b k cs
  have key : ∀ n l a w, l ∈ labs → J l n a w → ∀ rest, findLabel c l = some rest → ∃ e a' w', Q e a' w' ∧ Arrives P (lone (b.at a (.code rest :: .inScope c :: k)) cs w) b k cs e a' w' := by
    intro n
    induction n using Nat.strongRecOn with
    | _ n ih =>
      intro l a w hl hJ rest hrest
      obtain ⟨rest', hr', pass⟩ := hf l hl
      rw [hrest] at hr'
      cases hr'
      obtain ⟨e, a₁, w₁, hq, harr⟩ := pass n a w hJ b (.inScope c :: k) cs
      cases e with
      | normal => exact ⟨.normal, a₁, w₁, hq, Steps.trans harr (.one step_inScope)⟩
      | exit id => exact ⟨.exit id, a₁, w₁, hq, fun k' hk => harr k' (by simp [exitTo, hk])⟩
      | goto l' =>
        obtain ⟨hl', n', hlt, hJ'⟩ := hq
        obtain ⟨rest2, hr2, _⟩ := hf l' hl'
        have hg : gotoIn l' (.inScope c :: k) = some (.code rest2 :: .inScope c :: k) := by simp [gotoIn, hr2]
        obtain ⟨e₂, a₂, w₂, hq₂, harr₂⟩ := ih n' hlt l' a₁ w₁ hl' hJ' rest2 hr2
        exact ⟨e₂, a₂, w₂, hq₂, .of_steps (harr _ hg) harr₂⟩
      | ret => exact ⟨_, a₁, w₁, hq, harr⟩
      | panic ch => exact ⟨_, a₁, w₁, hq, harr⟩
      | outgrown => exact ⟨_, a₁, w₁, hq, harr⟩
  obtain ⟨e, a₁, w₁, hq, harr⟩ := first b (.inScope c :: k) cs
  cases e with
  | normal => exact ⟨.normal, a₁, w₁, hq, .head step_scope (Steps.trans harr (.one step_inScope))⟩
  | exit id => exact ⟨.exit id, a₁, w₁, hq, fun k' hk => .head step_scope (harr k' (by simp [exitTo, hk]))⟩
  | goto l' =>
    obtain ⟨hl', n', hJ'⟩ := hq
    obtain ⟨rest2, hr2, _⟩ := hf l' hl'
    have hg : gotoIn l' (.inScope c :: k) = some (.code rest2 :: .inScope c :: k) := by simp [gotoIn, hr2]
    obtain ⟨e₂, a₂, w₂, hq₂, harr₂⟩ := key n' l' a₁ w₁ hl' hJ' rest2 hr2
    exact ⟨e₂, a₂, w₂, hq₂, .of_steps (.head step_scope (harr _ hg)) harr₂⟩
  | ret => exact ⟨_, a₁, w₁, hq, .of_steps (.one step_scope) harr⟩
  | panic ch => exact ⟨_, a₁, w₁, hq, .of_steps (.one step_scope) harr⟩
  | outgrown => exact ⟨_, a₁, w₁, hq, .of_steps (.one step_scope) harr⟩

theorem passes_get {An : Nat → Option Ann} {labs : List Nat} {c : Code} {bl : Nat} {Q : Ex → St → Prop} : ∀ {l : List Nat}, passes cx An labs c bl Q l → ∀ k, k ∈ l → ∃ A rest, An (1000 + k) = some A ∧ findLabel c k = some rest ∧
    ∀ x : A.ι, A.p x → wpC cx An noSc rest bl (A.F x) (gotoQ An labs (fun n => n < A.μ x) Q)
  | [], _, k, hk => by cases hk
  | l :: r, h, k, hk => by
    simp only [passes] at h
    rcases List.mem_cons.1 hk with rfl | hk
    · have := h.1
      split at this
      · rename_i A rest h1 h2
        exact ⟨A, rest, h1, h2, this⟩
      · exact this.elim
    · exact passes_get h.2 k hk

/-- What holds at a label, in a run, at a number. -/
def LR (P : Program) [Laid P] (cx : Cx) (An : Nat → Option Ann) (B : Nat) (M I0 : Nat → Prop) (G : Nat → Value) (w0 : World) (l n : Nat) (a : Act) (w : World) : Prop :=
  ∃ A, An (1000 + l) = some A ∧ HR P cx B M I0 G w0 A n a w

theorem gotoQ_run {An : Nat → Option Ann} {labs : List Nat} {q : Nat → Prop} {Q : Ex → St → Prop} {e : Exit} (h : QR P cx B M I0 G w0 (gotoQ An labs q Q) e a w) : jumps labs (fun l a w => ∃ n, q n ∧ LR P cx An B M I0 G w0 l n a w) (QR P cx B M I0 G w0 Q) e a w := by
  cases e with
  | normal => exact h
  | ret => exact h
  | exit id => exact h
  | goto l =>
    obtain ⟨E, s, h1, h2⟩ := h
    simp only [gotoQ] at h2
    split at h2
    · rename_i hl
      unfold atHeadO at h2
      split at h2
      · rename_i A hA
        obtain ⟨x, E', h3, h4, h5⟩ := atHead_HR h1 h2
        exact ⟨by simpa using hl, A.μ x, h4, A, hA, x, E', h3, rfl, h5⟩
      · exact h2.elim
    · exact h2.elim
  | panic ch => exact h.elim
  | outgrown => exact h.elim

theorem scopeH_ok (hP : CxOk P cx) {An : Nat → Option Ann} {labs : List Nat} : ScOk P cx B M I0 G w0 (scopeH cx An labs) := by
  intro c bl s Q E a w h hc
  obtain ⟨h1, h2⟩ := hc
  refine wp_scope_labels labs (LR P cx An B M I0 G w0) (fun l hl => ?_) (wp_mono (wpC_run hP noSc_ok c bl s _ E a w h h1) (fun e a w hq => ?_))
  · obtain ⟨A, rest, e1, e2, e3⟩ := passes_get h2 l hl
    refine ⟨rest, e2, fun n a w hJ => ?_⟩
    obtain ⟨A', e1', x, E', hx, rfl, hrel⟩ := hJ
    rw [e1] at e1'
    cases e1'
    refine wp_mono (wpC_run hP noSc_ok rest bl _ _ E' a w hrel (e3 x hx)) (fun e a w hq => ?_)
    exact gotoQ_run hq
  · have := gotoQ_run hq
    cases e with
    | goto l => exact ⟨this.1, by obtain ⟨n, _, hn⟩ := this.2; exact ⟨n, hn⟩⟩
    | normal => exact hq
    | ret => exact hq
    | exit id => exact hq
    | panic ch => exact hq.elim
    | outgrown => exact hq.elim

/-! ### What a function hands back -/
def resSem (a : Act) (r : ResultVar) : Sem Value :=
  match r with
  | .tmp t => pure (a.tmps.getD t undef)
  | .cell b t => do loadVar t (← asAddr (a.tmps.getD b undef))

theorem res_run (hP : CxOk P cx) (h : Rel P cx.nt B M I0 G w0 E s a w) (r : ResultVar) (hr : resB cx s r = true) : ∃ v, (resSem a r).run P w = .ok v w ∧ CV E (lkO s.mem) w v (resOf cx s r) := by
  cases r with
  | tmp t => exact ⟨_, by simp only [resSem, Sem.run_pure], h.tm t⟩
  | cell b t =>
    simp only [resB] at hr
    simp only [resOf]
    have hb := h.tm b
    split at hr
    · rename_i c off L e1 e2
      rw [e1] at hb
      obtain ⟨g, bt, cs, e3, hm, hl⟩ := hb.inv_ptr
      simp only [hm] at hr
      simp only [hm, hr]
      have hL := tyRun hP e2
      obtain ⟨xs, h1, h2, h3⟩ := h.boxAt hm hl
      have hn := Nat.le_of_ble_eq_true hr
      refine ⟨_, ?_, ldAt_cv (f := fun j => xs.getD (off + j) undef) hL hn (fun j _ => h3 (off + j))⟩
      simp only [resSem, e3, Sem.run_bind]
      simp only [asAddr, Sem.run_pure, Result.andThen_ok]
      rw [run_loadVar' hL g off (fun j => xs.getD (off + j) undef) (fun j hj => cell_of_heap h1 (by omega))]
    · cases hr

theorem ress_run (hP : CxOk P cx) (h : Rel P cx.nt B M I0 G w0 E s a w) : ∀ (rs : List ResultVar), resBs cx s rs = true → ∃ vs : List Value, (rs.mapM (resSem a)).run P w = .ok vs w ∧ vs.length = rs.length ∧
    ∀ i, CV E (lkO s.mem) w (vs.getD i undef) ((rs.map (resOf cx s)).getD i .any)
  | [], _ => ⟨[], by simp, rfl, fun i => by simpa using CV.conc _ _ (Conc.any _)⟩
  | r :: rs, hb => by
    simp only [resBs] at hb
    split at hb
    · rename_i hr
      obtain ⟨v, h1, h2⟩ := res_run hP h r hr
      obtain ⟨vs, h3, h4, h5⟩ := ress_run hP h rs hb
      refine ⟨v :: vs, ?_, by simp [h4], fun i => ?_⟩
      · rw [List.mapM_cons, Sem.run_bind, h1, Result.andThen_ok, Sem.run_bind, h3, Result.andThen_ok, Sem.run_pure]
      · cases i with
        | zero => simpa using h2
        | succ i => simpa using h5 i
    · cases hb

def rawSV (cx : Cx) (f : Func) (s : St) : SV :=
  match f.results.toList with
  | [r] => resOf cx s r
  | rs => .tup (rs.map (resOf cx s))

theorem results_run (hP : CxOk P cx) (h : Rel P cx.nt B M I0 G w0 E s a w) (fn : Func) (hb : resBs cx s fn.results.toList = true) : ∃ v, (results fn a.tmps).run P w = .ok v w ∧ CV E (lkO s.mem) w v (rawSV cx fn s) := by
  obtain ⟨vs, h1, h2, h3⟩ := ress_run hP h fn.results.toList hb
  have hrun : (fn.results.mapM (resSem a)).run P w = .ok vs.toArray w := by
    rw [Array.mapM_eq_mapM_toList, Sem.run_map, h1]
    rfl
  refine ⟨if h : vs.toArray.size = 1 then vs.toArray[0] else .tuple vs.toArray, ?_, ?_⟩
  · have : results fn a.tmps = (do let vs ← fn.results.mapM (resSem a); pure (if h : vs.size = 1 then vs[0] else .tuple vs)) := rfl
    rw [this, Sem.run_bind, hrun, Result.andThen_ok, Sem.run_pure]
  · unfold rawSV
    rcases hl : fn.results.toList with _ | ⟨r, _ | ⟨r', rs⟩⟩
    · rw [hl] at h2
      have : vs = [] := List.eq_nil_of_length_eq_zero h2
      subst this
      exact .tup _ _ rfl (fun i => by simpa using CV.conc _ _ (Conc.any _))
    · rw [hl] at h2 h3
      obtain ⟨v, rfl⟩ := List.length_eq_one_iff.1 h2
      simpa using h3 0
    · rw [hl] at h2 h3
      have hne : ¬ vs.toArray.size = 1 := by simp at h2 ⊢; omega
      rw [dif_neg hne]
      exact .tup _ _ (by simpa using h2) (fun i => by simpa [Array.getD_eq_getD_getElem?, List.getD_eq_getElem?_getD] using h3 i)

theorem resOf_freeze {s s' : St} {m : List (Nat × Chunk)} {cs : List Nat} (hm : m = s.mem) (ht : s'.tm = s.tm) (hk : ∀ k, lkO s'.mem k = (match lkO (freezes m cs) k with | some ch => some ch | none => lkO s.mem k)) (r : ResultVar) :
    resOf cx s' r = resOf cx s r ∧ resB cx s' r = resB cx s r := by
  subst hm
  have box : ∀ c, (∀ t xs, lkO s'.mem c = some (.box t xs) ↔ lkO s.mem c = some (.box t xs)) := by
    intro c t xs
    rw [hk]
    by_cases hrow : ∃ v e ks l, lkO s.mem c = some (.row v e ks l)
    · obtain ⟨v, e, ks, l, h1⟩ := hrow
      rcases freezes_lk h1 cs with h2 | h2 <;> rw [h2]
      rw [h1]
      simp
    · rw [freezes_none (fun v e ks l h => hrow ⟨v, e, ks, l, h⟩) cs]
  cases r with
  | tmp t => simp only [resOf, resB, ht]; exact ⟨trivial, trivial⟩
  | cell b t =>
    simp only [resOf, resB, ht]
    split
    · rename_i c off L _ _
      cases h1 : lkO s.mem c with
      | none =>
        cases h2 : lkO s'.mem c with
        | none => exact ⟨rfl, rfl⟩
        | some ch =>
          cases ch with
          | box t xs => rw [(box c t xs).1 h2] at h1; cases h1
          | row => exact ⟨rfl, rfl⟩
          | froz => exact ⟨rfl, rfl⟩
          | gh => exact ⟨rfl, rfl⟩
          | mp => exact ⟨rfl, rfl⟩
          | it => exact ⟨rfl, rfl⟩
      | some ch =>
        cases ch with
        | box t xs => rw [(box c t xs).2 h1]; exact ⟨rfl, rfl⟩
        | row v e ks l =>
          cases h2 : lkO s'.mem c with
          | none => exact ⟨rfl, rfl⟩
          | some ch =>
            cases ch with
            | box t xs => rw [(box c t xs).1 h2] at h1; cases h1
            | row => exact ⟨rfl, rfl⟩
            | froz => exact ⟨rfl, rfl⟩
            | gh => exact ⟨rfl, rfl⟩
            | mp => exact ⟨rfl, rfl⟩
            | it => exact ⟨rfl, rfl⟩
        | froz v ks l =>
          cases h2 : lkO s'.mem c with
          | none => exact ⟨rfl, rfl⟩
          | some ch =>
            cases ch with
            | box t xs => rw [(box c t xs).1 h2] at h1; cases h1
            | row => exact ⟨rfl, rfl⟩
            | froz => exact ⟨rfl, rfl⟩
            | gh => exact ⟨rfl, rfl⟩
            | mp => exact ⟨rfl, rfl⟩
            | it => exact ⟨rfl, rfl⟩
        | gh v =>
          cases h2 : lkO s'.mem c with
          | none => exact ⟨rfl, rfl⟩
          | some ch =>
            cases ch with
            | box t xs => rw [(box c t xs).1 h2] at h1; cases h1
            | row => exact ⟨rfl, rfl⟩
            | froz => exact ⟨rfl, rfl⟩
            | gh => exact ⟨rfl, rfl⟩
            | mp => exact ⟨rfl, rfl⟩
            | it => exact ⟨rfl, rfl⟩
        | mp =>
          cases h2 : lkO s'.mem c with
          | none => exact ⟨rfl, rfl⟩
          | some ch =>
            cases ch with
            | box t xs => rw [(box c t xs).1 h2] at h1; cases h1
            | row => exact ⟨rfl, rfl⟩
            | froz => exact ⟨rfl, rfl⟩
            | gh => exact ⟨rfl, rfl⟩
            | mp => exact ⟨rfl, rfl⟩
            | it => exact ⟨rfl, rfl⟩
        | it =>
          cases h2 : lkO s'.mem c with
          | none => exact ⟨rfl, rfl⟩
          | some ch =>
            cases ch with
            | box t xs => rw [(box c t xs).1 h2] at h1; cases h1
            | row => exact ⟨rfl, rfl⟩
            | froz => exact ⟨rfl, rfl⟩
            | gh => exact ⟨rfl, rfl⟩
            | mp => exact ⟨rfl, rfl⟩
            | it => exact ⟨rfl, rfl⟩
    · exact ⟨rfl, rfl⟩

theorem resBs_congr {s s' : St} (h : ∀ r, resB cx s' r = resB cx s r) : ∀ rs, resBs cx s' rs = resBs cx s rs
  | [] => rfl
  | r :: rs => by simp only [resBs, h, resBs_congr h rs]

theorem kBs_shOk' {m : Nat → Option Chunk} : ∀ {ks : List CK} {cs : List SV}, kBs ks cs = true → cs.length = ks.length ∧ ∀ j, j < ks.length → kOk (ks.getD j .other) (cs.getD j .any)
  | [], [], _ => ⟨rfl, fun j hj => by simp at hj⟩
  | k :: ks, v :: cs, h => by
    simp only [kBs, Bool.and_eq_true] at h
    obtain ⟨h1, h2⟩ := kBs_shOk' (m := m) h.2
    refine ⟨by simp [h1], fun j hj => ?_⟩
    cases j with
    | zero => exact (kB_ok h.1).1
    | succ j => simpa using h2 j (by simpa using hj)
  | [], _ :: _, h => by cases h
  | _ :: _, [], h => by cases h

mutual
/-- Boxes that are handed back are written no more. -/
theorem pinV_conc {mm mm' : List (Nat × Chunk)} {I2 : Nat → Prop} (hI : ∀ b, E.I b → I2 b) (hl : ∀ c b t cs, lkO mm c = some (.box t cs) → roK c = false → E.loc c = some b → I2 b) (hbox : ∀ c t cs, lkO mm c = some (.box t cs) → lkO mm' c = some (.box t cs)) (hch : ∀ c, ChR E (lkO mm') w c (lkO mm' c)) :
    ∀ (v : SV) (x : Value), closed (pinV cx mm v) = true → CV E (lkO mm') w x v → Conc I2 w x (pinV cx mm v)
  | .ptr c off, x, hc, h => by
    unfold pinV at hc ⊢
    split at hc
    · rename_i t cs hm
      split at hc
      · rename_i L hL
        split at hc
        · rename_i q1 q2 q3
          simp only [Bool.and_eq_true, Bool.not_eq_true'] at q1
          have h0 := Nat.eq_of_beq_eq_true q1.1
          subst h0
          obtain ⟨b, t', cs', e1, e2, e3⟩ := h.inv_ptr
          have hm' := hbox c t cs hm
          have hc' := hch c
          rw [hm'] at hc'
          obtain ⟨b', xs, p1, p2, p3, p4⟩ := hc'
          rw [e3] at p1
          cases p1
          obtain ⟨k1, k2⟩ := kBs_shOk' (m := lkO mm') q3
          rw [e1]
          have hsh : shOk L.ks (.agg cs) := ⟨k1, k2⟩
          have := Conc.ep (I := I2) (w := w) b 0 L.ks [.agg cs] 0 0 (fun _ j => xs.getD j undef) (hl c b _ _ hm q1.2 e3) (by simp) (fun e he => by simp at he; subst he; exact hsh)
            (fun i j hi hj => by
              have hi : i = 0 := by simpa using hi
              subst hi
              simp only [World.cell?, p2]
              rw [if_neg (by simp)]
              have hlt : j < xs.size := by omega
              simp [Array.getD_eq_getD_getElem?, hlt])
            (fun i j hi hj => by
              have hi : i = 0 := by simpa using hi
              subst hi
              have := closedL_conc cs q2 j _ (p4 j)
              exact this.mono hI (fun _ _ => rfl))
          simpa using this
        · simp [closed] at hc
      · simp [closed] at hc
    · simp [closed] at hc
  | .tup vs, x, hc, h => by
    simp only [pinV] at hc ⊢
    obtain ⟨xs, rfl, h1, h2⟩ := h.inv_tup
    exact .tup xs _ (by rw [h1, pinL_length]) (fun i => pinL_conc hI hl hbox hch vs i _ (by simpa [closed] using hc) (h2 i))
  | .any, x, hc, h => (closed_conc _ _ hc h).mono hI (fun _ _ => rfl)
  | .und, x, hc, h => (closed_conc _ _ hc h).mono hI (fun _ _ => rfl)
  | .int _ _, x, hc, h => (closed_conc _ _ hc h).mono hI (fun _ _ => rfl)
  | .bool _, x, hc, h => (closed_conc _ _ hc h).mono hI (fun _ _ => rfl)
  | .tt, x, hc, h => (closed_conc _ _ hc h).mono hI (fun _ _ => rfl)
  | .ff, x, hc, h => (closed_conc _ _ hc h).mono hI (fun _ _ => rfl)
  | .str _, x, hc, h => (closed_conc _ _ hc h).mono hI (fun _ _ => rfl)
  | .flt _, x, hc, h => (closed_conc _ _ hc h).mono hI (fun _ _ => rfl)
  | .cpx _ _, x, hc, h => (closed_conc _ _ hc h).mono hI (fun _ _ => rfl)
  | .agg cs, x, hc, h => (closed_conc (.agg cs) x hc h).mono hI (fun _ _ => rfl)
  | .ptx _ _, x, hc, h => by simp [pinV, closed] at hc
  | .rptr _ _ _ _ _, x, hc, h => by simp [pinV, closed] at hc
  | .osl _ _, x, hc, h => by simp [pinV, closed] at hc
  | .sl _ _, x, hc, h => (closed_conc _ _ hc h).mono hI (fun _ _ => rfl)
  | .ep _ _ _ _, x, hc, h => (closed_conc _ _ hc h).mono hI (fun _ _ => rfl)
  | .oep _ _ _ _ _, x, hc, h => (closed_conc _ _ hc h).mono hI (fun _ _ => rfl)
  | .nb _, x, hc, h => (closed_conc _ _ hc h).mono hI (fun _ _ => rfl)
  | .fsl _ _, x, hc, h => (closed_conc _ _ hc h).mono hI (fun _ _ => rfl)
  | .lp _ _, x, hc, h => by simp [pinV, closed] at hc
  | .mpp _, x, hc, h => by simp [pinV, closed] at hc
  | .itp _, x, hc, h => by simp [pinV, closed] at hc
  | .otl _ _ _ _, x, hc, h => by simp [pinV, closed] at hc
  | .own _ _ _, x, hc, h => (closed_conc _ _ hc h).mono hI (fun _ _ => rfl)
  | .nilsl, x, hc, h => (closed_conc _ _ hc h).mono hI (fun _ _ => rfl)
  | .nilp, x, hc, h => (closed_conc _ _ hc h).mono hI (fun _ _ => rfl)
  | .fn f cs, x, hc, h => (closed_conc (.fn f cs) x hc h).mono hI (fun _ _ => rfl)
theorem pinL_conc {mm mm' : List (Nat × Chunk)} {I2 : Nat → Prop} (hI : ∀ b, E.I b → I2 b) (hl : ∀ c b t cs, lkO mm c = some (.box t cs) → roK c = false → E.loc c = some b → I2 b) (hbox : ∀ c t cs, lkO mm c = some (.box t cs) → lkO mm' c = some (.box t cs)) (hch : ∀ c, ChR E (lkO mm') w c (lkO mm' c)) :
    ∀ (vs : List SV) (i : Nat) (x : Value), closedL (pinL cx mm vs) = true → CV E (lkO mm') w x (vs.getD i .any) → Conc I2 w x ((pinL cx mm vs).getD i .any)
  | [], i, x, _, _ => by simpa [pinL] using Conc.any _
  | v :: r, 0, x, hc, h => by
    simp only [pinL, closedL, Bool.and_eq_true] at hc
    simpa [pinL] using pinV_conc hI hl hbox hch v x hc.1 (by simpa using h)
  | v :: r, i + 1, x, hc, h => by
    simp only [pinL, closedL, Bool.and_eq_true] at hc
    simpa [pinL] using pinL_conc hI hl hbox hch r i x hc.2 (by simpa using h)
theorem pinL_length {mm : List (Nat × Chunk)} : ∀ (vs : List SV), (pinL cx mm vs).length = vs.length
  | [] => rfl
  | v :: r => by simp [pinL, pinL_length r]
end

theorem closedL_set : ∀ (rs : List SV) (j : Nat), closedL rs = true → closedL (rs.set j .any) = true
  | [], _, _ => rfl
  | v :: r, 0, h => by simp only [closedL, Bool.and_eq_true] at h; simp [closedL, closed, h.2]
  | v :: r, j + 1, h => by simp only [closedL, Bool.and_eq_true] at h; simp [closedL, h.1, closedL_set r j h.2]
theorem ownPut_any {m : Nat → Option Chunk} {x : Value} {v : SV} (j : Option Nat) (h : CV E m w x v) : CV E m w x (ownPut j .any v) := by
  cases j with
  | none => exact .conc _ _ (.any _)
  | some j =>
    cases v <;> try exact h
    rename_i rs
    obtain ⟨xs, rfl, h1, h2⟩ := h.inv_tup
    refine .tup xs _ (by rw [h1]; simp) (fun i => ?_)
    have := h2 i
    simp only [List.getD_eq_getElem?_getD, List.getElem?_set] at this ⊢
    by_cases hij : j = i
    · rw [if_pos hij]; split
      · exact .conc _ _ (.any _)
      · exact .conc _ _ (.any _)
    · rw [if_neg hij]; exact this
theorem ownGet_cv {m : Nat → Option Chunk} {x : Value} {v : SV} {j : Option Nat} {c ver : Nat} (h : CV E m w x v) (hg : ownGet j v = .osl c ver) : CV E m w (ownSel j x) (.osl c ver) := by
  cases j with
  | none => simp only [ownGet] at hg; rw [hg] at h; exact h
  | some j =>
    cases v <;> simp only [ownGet, reduceCtorEq] at hg
    rename_i rs
    obtain ⟨xs, rfl, h1, h2⟩ := h.inv_tup
    have := h2 j
    rw [hg] at this
    exact this

theorem new2 {A : Prop} {b B : Nat} {I0 M : Nat → Prop} (hM : ∀ b, ¬ M b) (h : A ∧ (I0 b ∨ B ≤ b ∨ M b)) : A ∧ (I0 b ∨ B ≤ b) := ⟨h.1, h.2.imp id fun q => q.elim id fun q => absurd q (hM b)⟩
/-- The function's end, where a slice of its own is handed over. -/
theorem end_own (hP : CxOk P cx) (hM : ∀ b, ¬ M b) (h : Rel P cx.nt B M I0 G w0 E s a w) (fn : Func) {r : SV} (hr : closed r = true) (hb : resBs cx s fn.results.toList = true) {j : Option Nat} {e : Nat} {ks : List CK} {l : List SV} (how : ownAt r = some (j, e, ks, l)) (he : ownQ cx s.mem (rawI cx fn s) r j e ks l) :
    ∃ v, (results fn a.tmps).run P w = .ok v w ∧ ∃ I', Fr B M w0 w ∧ (∀ b, I0 b → I' b) ∧ (∀ b, I' b → b < w.heap.size ∧ (I0 b ∨ B ≤ b)) ∧ ResOK I' B w v r := by
  unfold ownQ at he
  split at he
  · rename_i c ver hg
    split at he
    · rename_i v' e' ks' l' hm
      split at he
      · rename_i hq
        simp only [Bool.and_eq_true, Bool.not_eq_true'] at hq
        obtain ⟨⟨⟨p1, p2⟩, p3⟩, p4⟩ := hq
        have p1 := Nat.eq_of_beq_eq_true p1
        have p2 := Nat.eq_of_beq_eq_true p2
        have p3 := cksEq_eq _ _ p3
        obtain ⟨he, rfl⟩ := he
        subst p1 p2 p3
        have hraw0 : rawI cx fn s = rawSV cx fn s := rfl
        rw [hraw0] at hg he p4
        have hr0 : closed (ownPut j .any r) = true := by
          cases j with
          | none => rfl
          | some j => cases r <;> first | exact hr | (simp only [ownPut, closed] at hr ⊢; exact closedL_set _ _ hr)
        obtain ⟨E', s', q1, q2, q3, q4, q5⟩ := h.freeze (names (ownPut j .any (rawSV cx fn s))) s.mem (fun _ _ => .inl rfl)
        have hmc : lkO s'.mem c = some (.row v' e' ks' l') := by rw [q3, freezes_notin (by simpa using p4), hm]
        have hres := fun r => resOf_freeze (cx := cx) (s := s) (s' := s') rfl q2 q3 r
        have hraw : rawSV cx fn s' = rawSV cx fn s := by
          unfold rawSV
          split
          · exact (hres _).1
          · congr 1
            exact List.map_congr_left fun r _ => (hres r).1
        obtain ⟨v, h1, h2⟩ := results_run hP q1 fn (by rw [resBs_congr (fun r => (hres r).2)]; exact hb)
        rw [hraw] at h2
        have h3 := resolve_cv (m := s.mem) q1.ch _ _ (frozen_of q3) (ownPut_any j h2)
        have hrow : RowR E' w c e' ks' l' := by have := q1.ch c; rw [hmc] at this; exact this
        obtain ⟨r1, rr⟩ := hrow
        have hcv := ownGet_cv h2 hg
        obtain ⟨v2, c1, c2⟩ := hcv.inv_osl
        rw [hmc] at c1
        simp only [verOf, Option.some.injEq] at c1
        have hsel : ownSel j v = E'.cv c := c2 c1
        have hown : ∀ I2 : Nat → Prop, (∀ b, E'.I b → I2 b) → (∀ b, E'.loc c = some b → ¬ I2 b) → OwnR I2 B w (ownSel j v) e' ks' l' := fun I2 hi hn => by
          rw [hsel]
          rcases rr with ⟨r2, xs, r3, r4⟩ | ⟨z1, _, z3⟩
          rotate_left
          · exact ⟨r1, .inr ⟨z1, z3⟩⟩
          refine ⟨r1, .inl ⟨fun b hb => ?_, xs, r3, fun i j hi' hj => (r4 i j hi' hj).mono hi (fun _ _ => rfl)⟩⟩
          have hl : E'.loc c = some b := r2.trans hb
          obtain ⟨k1, k2, k3⟩ := q1.loc c b hl
          refine ⟨?_, k1, hn b hl⟩
          rcases k3 with k3 | k3 | ⟨_, k3⟩
          · exact k3
          · exact absurd k3 (hM b)
          · rw [hmc] at k3; simp [verOf] at k3
        unfold pinR at he
        split at he
        · rename_i hcl
          let I2 : Nat → Prop := fun b => E'.I b ∨ (B ≤ b ∧ b < w.heap.size ∧ E'.loc c ≠ some b)
          have hpin := pinV_conc (cx := cx) (E := E') (w := w) (mm := s.mem) (mm' := s'.mem) (I2 := I2) (fun b hb => .inl hb)
            (fun c' b t cs e00 e0 e1 => by
              obtain ⟨g1, g2, g3⟩ := q1.loc c' b e1
              have hne : E'.loc c ≠ some b := fun e2 => by
                have := q1.inj c c' b e2 e1
                subst this
                rw [hm] at e00; cases e00
              rcases g3 with g3 | g3 | ⟨g3, _⟩
              · exact .inr ⟨g3, g1, hne⟩
              · exact absurd g3 (hM b)
              · rw [e0] at g3; cases g3)
            (fun c t cs e1 => by
              rw [q3 c, freezes_none (fun v e ks l h => by rw [h] at e1; cases e1) _]
              exact e1) q1.ch _ _ hcl h3
          let E2 : Env := ⟨fun _ => none, fun _ => undef, I2, fun _ => undef⟩
          have h4 : CV E2 (lkO s'.mem) w v (ownPut j .any r) := eqR_cv (E := E2) (.conc _ _ hpin) he
          refine ⟨v, h1, I2, q1.fr, fun b hb => .inl (q1.i0 b hb), fun b hb => ?_, .inr ⟨j, e', ks', l', how, closed_conc (E := E2) _ _ hr0 h4, hown I2 (fun b hb => .inl hb) (fun b hb hn => ?_)⟩⟩
          · rcases hb with hb | ⟨hb1, hb2, _⟩
            · exact new2 hM (q1.inew b hb)
            · exact ⟨hb2, .inr hb1⟩
          · rcases hn with hn | ⟨_, _, hn⟩
            · exact (q1.loc c b hb).2.1 hn
            · exact hn hb
        · have h4 : CV E' (lkO s'.mem) w v (ownPut j .any r) := eqR_cv h3 he
          exact ⟨v, h1, E'.I, q1.fr, q1.i0, fun b hb => new2 hM (q1.inew b hb), .inr ⟨j, e', ks', l', how, closed_conc _ _ hr0 h4, hown E'.I (fun _ h => h) (fun b hb => (q1.loc c b hb).2.1)⟩⟩
      · exact he.elim
    · exact he.elim
  · rename_i hg
    split at he
    · obtain ⟨v, h1, h2⟩ := results_run hP h fn hb
      have hraw0 : rawI cx fn s = rawSV cx fn s := rfl
      simp only [ownGet] at hg
      rw [← hraw0, hg] at h2
      subst he
      exact ⟨v, h1, E.I, h.fr, h.i0, fun b hb => new2 hM (h.inew b hb), .inr ⟨none, e, ks, [], how, .any _, (fun v hv => (by cases hv)), .inr ⟨rfl, none, h2.inv_nilsl⟩⟩⟩
    · exact he.elim
  · exact he.elim

/-- The function's end. -/
theorem end_run (hP : CxOk P cx) (hM : ∀ b, ¬ M b) (h : Rel P cx.nt B M I0 G w0 E s a w) (fn : Func) {r : SV} (hr : closed r = true) (he : endQ cx fn s r) :
    a.defers = [] ∧ ∃ v, (results fn a.tmps).run P w = .ok v w ∧ ∃ I', Fr B M w0 w ∧ (∀ b, I0 b → I' b) ∧ (∀ b, I' b → b < w.heap.size ∧ (I0 b ∨ B ≤ b)) ∧ ResOK I' B w v r := by
  unfold endQ at he
  split at he
  · rename_i hb
    refine ⟨h.defers, ?_⟩
    cases how : ownAt r with
    | some p =>
      obtain ⟨j, e, ks, l⟩ := p
      simp only [how] at he
      exact end_own hP hM h fn hr hb how he
    | none =>
    simp only [how] at he
    obtain ⟨E', s', q1, q2, q3, q4, q5⟩ := h.freeze (names (rawSV cx fn s)) s.mem (fun _ _ => .inl rfl)
    have hres := fun r => resOf_freeze (cx := cx) (s := s) (s' := s') rfl q2 q3 r
    have hraw : rawSV cx fn s' = rawSV cx fn s := by
      unfold rawSV
      split
      · exact (hres _).1
      · congr 1
        exact List.map_congr_left fun r _ => (hres r).1
    obtain ⟨v, h1, h2⟩ := results_run hP q1 fn (by rw [resBs_congr (fun r => (hres r).2)]; exact hb)
    rw [hraw] at h2
    have h3 := resolve_cv (m := s.mem) q1.ch _ _ (frozen_of q3) h2
    have hrs : retSV cx fn s = pinR cx s.mem (resolve s.mem (rawSV cx fn s)) := rfl
    rw [hrs] at he
    unfold pinR at he
    split at he
    · rename_i hcl
      let I2 : Nat → Prop := fun b => E'.I b ∨ (B ≤ b ∧ b < w.heap.size)
      have hpin := pinV_conc (cx := cx) (E := E') (w := w) (mm := s.mem) (mm' := s'.mem) (I2 := I2) (fun b hb => .inl hb)
        (fun c b _ _ _ e0 e1 => by
          obtain ⟨g1, g2, g3⟩ := q1.loc c b e1
          rcases g3 with g3 | g3 | ⟨g3, _⟩
          · exact .inr ⟨g3, g1⟩
          · exact absurd g3 (hM b)
          · rw [e0] at g3; cases g3)
        (fun c t cs e1 => by
          rw [q3 c, freezes_none (fun v e ks l h => by rw [h] at e1; cases e1) _]
          exact e1) q1.ch _ _ hcl h3
      let E2 : Env := ⟨fun _ => none, fun _ => undef, I2, fun _ => undef⟩
      have h4 : CV E2 (lkO s'.mem) w v r := eqR_cv (E := E2) (.conc _ _ hpin) he
      refine ⟨v, h1, I2, q1.fr, fun b hb => .inl (q1.i0 b hb), fun b hb => ?_, .inl (closed_conc (E := E2) _ _ hr h4)⟩
      rcases hb with hb | ⟨hb1, hb2⟩
      · exact new2 hM (q1.inew b hb)
      · exact ⟨hb2, .inr hb1⟩
    · have h4 : CV E' (lkO s'.mem) w v r := eqR_cv h3 he
      exact ⟨v, h1, E'.I, q1.fr, q1.i0, fun b hb => new2 hM (q1.inew b hb), .inl (closed_conc _ _ hr h4)⟩
  · exact he.elim

theorem args0_lk : ∀ (vs : List SV) (i t : Nat), lk .any (args0 i vs) t = if i ≤ t then vs.getD (t - i) .any else .any
  | [], i, t => by simp [args0, lk]
  | v :: r, i, t => by
    simp only [args0]
    rw [lk_cons, args0_lk r (i + 1) t]
    by_cases e : i = t
    · subst e; simp
    · rw [if_neg e]
      by_cases hi : i ≤ t
      · rw [if_pos hi, if_pos (by omega)]
        obtain ⟨d, rfl⟩ : ∃ d, t = i + 1 + d := ⟨t - (i + 1), by omega⟩
        have e1 : i + 1 + d - (i + 1) = d := by omega
        have e2 : i + 1 + d - i = d + 1 := by omega
        rw [e1, e2]; simp
      · rw [if_neg hi, if_neg (by omega)]

theorem lp0_of {I : Nat → Prop} : ∀ {args : List SV}, lp1.lp0 args = true → lpM args = [] ∧ ∀ (w : World) (x : Value) (i : Nat), ArgOK I w x (args.getD i .any) → Conc I w x ((args.map lpT).getD i .any)
  | [], _ => ⟨rfl, fun w x i _ => by simpa using Conc.any x⟩
  | v :: r, h => by
    have hv : ∀ t cs, v ≠ .lp t cs := fun t cs e => by subst e; simp [lp1.lp0] at h
    have h' : lp1.lp0 r = true := by cases v <;> first | exact h | exact absurd rfl (hv _ _)
    obtain ⟨h1, h2⟩ := lp0_of (I := I) h'
    refine ⟨by cases v <;> first | exact h1 | exact absurd rfl (hv _ _), fun w x i hx => ?_⟩
    cases i with
    | zero =>
      have hx : ArgOK I w x v := by simpa using hx
      have e : lpT v = v := by cases v <;> first | rfl | exact absurd rfl (hv _ _)
      simp only [List.map_cons, List.getD_cons_zero, e]
      rcases hx with hx | ⟨t, cs, _, _, e2, _⟩
      · exact hx
      · exact absurd e2 (hv _ _)
    | succ i => simpa using h2 w x i (by simpa using hx)

theorem noOwn_get : ∀ {cs : List SV}, noOwn cs = true → ∀ (i : Nat) (e : Nat) (ks : List CK) (l : List SV), cs.getD i .any ≠ .own e ks l
  | [], _, i, _, _, _, h => by simp at h
  | v :: r, hn, 0, e, ks, l, h => by
    have h : v = .own e ks l := by simpa using h
    subst h
    simp [noOwn] at hn
  | v :: r, hn, i + 1, e, ks, l, h => by
    have hr : noOwn r = true := by cases v <;> first | exact hn | (simp [noOwn] at hn; done)
    exact noOwn_get hr i e ks l (by simpa using h)
/-- Where the lent pointer leads to. -/
theorem lpB_of {I : Nat → Prop} {w : World} : ∀ {args : List SV} {xs : Array Value}, lp1 args = true → xs.size = args.length → (∀ i, ArgOK I w (xs.getD i undef) (args.getD i .any)) →
    ∃ b0 : Option Nat, (b0 = none ∧ lpM args = [] ∧ ∀ i, Conc I w (xs.getD i undef) ((args.map lpT).getD i .any)) ∨
      ∃ t cs b ys, b0 = some b ∧ lpM args = [(9990, .box t cs)] ∧ w.heap[b]? = some (.cells ys t (0, 0)) ∧ ys.size = cs.length ∧ (∀ i, Conc I w (ys.getD i undef) (cs.getD i .any)) ∧
        (∀ i, Conc I w (xs.getD i undef) ((args.map lpT).getD i .any) ∨ (xs.getD i undef = .pointer (some ⟨b, 0, none⟩) ∧ (args.map lpT).getD i .any = .ptr 9990 0)) ∧ b < w.heap.size ∧ ¬ I b
  | [], xs, _, hs, hx => ⟨none, .inl ⟨rfl, rfl, fun i => by simpa using Conc.any _⟩⟩
  | v :: r, xs, h1, hs, hx => by
    obtain ⟨xl⟩ := xs
    cases xl with
    | nil => simp at hs
    | cons x0 xl =>
    have hget : ∀ i, (⟨x0 :: xl⟩ : Array Value).getD (i + 1) undef = (⟨xl⟩ : Array Value).getD i undef := fun i => by simp [Array.getD_eq_getD_getElem?]
    have hx0 : ArgOK I w x0 v := by simpa [Array.getD_eq_getD_getElem?] using hx 0
    have hxr : ∀ i, ArgOK I w ((⟨xl⟩ : Array Value).getD i undef) (r.getD i .any) := fun i => by have := hx (i + 1); rw [hget] at this; simpa using this
    by_cases hv : ∃ t cs, v = .lp t cs
    · obtain ⟨t, cs, rfl⟩ := hv
      have hno : noOwn cs = true := by simp only [lp1, Bool.and_eq_true] at h1; exact h1.1
      have h1 : lp1.lp0 r = true := by simp only [lp1, Bool.and_eq_true] at h1; exact h1.2
      obtain ⟨g1, g2⟩ := lp0_of (I := I) h1
      rcases hx0 with hx0 | ⟨t', cs', b, ys, e1, e2, e3, e4, e5, e6, e7⟩
      · cases hx0
      · cases e1
        refine ⟨some b, .inr ⟨t, cs, b, ys, rfl, rfl, e3, e4, fun i => (e5 i).elim id (fun ⟨_, _, _, _, _, _, h, _⟩ => absurd h (noOwn_get hno i _ _ _)), fun i => ?_, e6, e7⟩⟩
        cases i with
        | zero => exact .inr ⟨by simpa [Array.getD_eq_getD_getElem?] using e2, rfl⟩
        | succ i => rw [hget]; exact .inl (by simpa using g2 w _ i (hxr i))
    · have hv' : ∀ t cs, v ≠ .lp t cs := fun t cs e => hv ⟨t, cs, e⟩
      have h1' : lp1 r = true := by cases v <;> first | exact h1 | exact absurd rfl (hv' _ _)
      have hm : lpM (v :: r) = lpM r := by cases v <;> first | rfl | exact absurd rfl (hv' _ _)
      have e : lpT v = v := by cases v <;> first | rfl | exact absurd rfl (hv' _ _)
      have hx0' : Conc I w x0 v := by
        rcases hx0 with hx0 | ⟨t, cs, _, _, e2, _⟩
        · exact hx0
        · exact absurd e2 (hv' _ _)
      obtain ⟨b0, hb⟩ := lpB_of (xs := ⟨xl⟩) h1' (by simpa using hs) hxr
      refine ⟨b0, ?_⟩
      rcases hb with ⟨k1, k2, k3⟩ | ⟨t, cs, b, ys, k0, k1, k2, k3, k4, k5, k6, k7⟩
      · refine .inl ⟨k1, by rw [hm]; exact k2, fun i => ?_⟩
        cases i with
        | zero => simpa [Array.getD_eq_getD_getElem?, e] using hx0'
        | succ i => rw [hget]; simpa using k3 i
      · refine .inr ⟨t, cs, b, ys, k0, by rw [hm]; exact k1, k2, k3, k4, fun i => ?_, k6, k7⟩
        cases i with
        | zero => exact .inl (by simpa [Array.getD_eq_getD_getElem?, e] using hx0')
        | succ i => rw [hget]; simpa using k5 i

/-- A function does what the executor says. -/
theorem fnOK (hP : CxOk P cx) {f : Nat} {fn : Func} (hf : P.funcs[f]? = some fn) (hnt : Nat.beq fn.ntmps cx.nt = true) {An : Nat → Option Ann} {labs : List Nat} {args : List SV} {r : SV} (hn : Nat.ble args.length fn.ntmps = true) (h : wpF cx An labs fn args r) : FnOK P f args r := by
  unfold wpF at h
  split at h
  · rename_i c hbody
    split at h
    · rename_i hca hcr
      intro I w xs hld hI hxs hx
      have hn' := Nat.le_of_ble_eq_true hn
      have hnt' := Nat.eq_of_beq_eq_true hnt
      simp only [Bool.and_eq_true] at hca
      obtain ⟨b0, hb0⟩ := lpB_of hca.2 hxs hx
      let E : Env := ⟨fun c => if c = 9990 then b0 else none, fun _ => undef, I, fun _ => undef⟩
      have hrel : Rel P cx.nt w.heap.size (fun _ => False) I (fun _ => undef) w E ⟨args0 0 (args.map lpT), lpM args⟩ ⟨xs ++ Array.replicate (fn.ntmps - xs.size) undef, []⟩ w := by
        have hmm : ∀ x v, Conc I w x v → CV E (lkO (lpM args)) w x v := fun x v h => .conc _ _ h
        rcases hb0 with ⟨h1, h2, h3⟩ | ⟨t, cs, b, ys, h0, h1, h2, h3, h4, h5, h6, h7⟩
        · subst h1
          refine ⟨rfl, ?_, Fr.refl _ _ _, Nat.le_refl _, fun b hb => hb, fun b hb => ⟨hI b hb, .inl hb⟩, fun c b hb => ?_, fun c c' b hb => ?_, fun t => ?_, fun c => ?_, fun w' hf => Laid.mono hf.size (fun k hk => hf.block k hk (fun h => h)) hld, rfl⟩
          · simp only [Array.size_append, Array.size_replicate]
            omega
          · simp only [E] at hb; split at hb <;> cases hb
          · simp only [E] at hb; split at hb <;> cases hb
          · dsimp only
            rw [args0_lk, if_pos (Nat.zero_le _), Nat.sub_zero]
            refine .conc _ _ ?_
            by_cases ht : t < xs.size
            · have e : (xs ++ Array.replicate (fn.ntmps - xs.size) undef).getD t undef = xs.getD t undef := by
                rw [Array.getD_eq_getD_getElem?, Array.getD_eq_getD_getElem?, Array.getElem?_append_left ht]
              rw [e]; exact h3 t
            · rw [List.getD_eq_getElem?_getD, List.getElem?_eq_none (by rw [List.length_map]; omega)]
              exact .any _
          · dsimp only; rw [h2]; trivial
        · subst h0
          have hlk : ∀ c, lkO (lpM args) c = if 9990 = c then some (.box t cs) else none := fun c => by rw [h1, lkO_cons]; rfl
          refine ⟨rfl, ?_, Fr.refl _ _ _, Nat.le_refl _, fun b hb => hb, fun b hb => ⟨hI b hb, .inl hb⟩, fun c b' hb => ?_, fun c c' b' hb hb' => ?_, fun t' => ?_, fun c => ?_, fun w' hf => Laid.mono hf.size (fun k hk => hf.block k hk (fun h => h)) hld, rfl⟩
          · simp only [Array.size_append, Array.size_replicate]
            omega
          · simp only [E] at hb
            split at hb
            · rename_i hc
              cases hb
              subst hc
              refine ⟨h6, h7, .inr (.inr ⟨rfl, ?_⟩)⟩
              dsimp only
              rw [hlk, if_pos rfl]; rfl
            · cases hb
          · simp only [E] at hb hb'
            split at hb <;> split at hb' <;> first | (cases hb; done) | (cases hb'; done) | (rename_i p q; rw [p, q])
          · dsimp only
            rw [args0_lk, if_pos (Nat.zero_le _), Nat.sub_zero]
            by_cases ht : t' < xs.size
            · have e : (xs ++ Array.replicate (fn.ntmps - xs.size) undef).getD t' undef = xs.getD t' undef := by
                rw [Array.getD_eq_getD_getElem?, Array.getD_eq_getD_getElem?, Array.getElem?_append_left ht]
              rw [e]
              rcases h5 t' with hh | ⟨h8, h9⟩
              · exact .conc _ _ hh
              · rw [h8, h9]
                exact .ptr 9990 0 b t cs (by rw [hlk, if_pos rfl]) (by simp [E])
            · rw [List.getD_eq_getElem?_getD, List.getElem?_eq_none (by rw [List.length_map]; omega)]
              exact .conc _ _ (.any _)
          · dsimp only
            rw [hlk]
            by_cases hc : 9990 = c
            · subst hc
              rw [if_pos rfl]
              exact ⟨b, ys, by simp [E], h2, h3, fun i => hmm _ _ (h4 i)⟩
            · rw [if_neg hc]; trivial
      refine calls_of_wp hf hbody (wp_mono (wpC_run hP (scopeH_ok hP) c 0 _ _ E _ w hrel h) (fun e a' w' hq => ?_))
      have fin : ∀ {E' : Env} {s' : St}, Rel P cx.nt w.heap.size (fun _ => False) I (fun _ => undef) w E' s' a' w' → endQ cx fn s' r → a'.defers = [] ∧ ∃ v, (results fn a'.tmps).run P w' = .ok v w' ∧ ∃ (x : Value) (I' : Nat → Prop), Ending.returned v = .returned x ∧ Fr w.heap.size (fun _ => False) w w' ∧ (∀ b, I b → I' b) ∧ (∀ b, I' b → b < w'.heap.size ∧ (I b ∨ w.heap.size ≤ b)) ∧ ResOK I' w.heap.size w' x r := by
        intro E' s' h1 h2
        obtain ⟨q1, v, q2, I', q3, q4, q5, q6⟩ := end_run hP (fun _ h => h) h1 fn hcr h2
        exact ⟨q1, v, q2, v, I', rfl, q3, q4, q5, q6⟩
      cases e with
      | normal => obtain ⟨E', s', h1, h2⟩ := hq; exact fin h1 h2
      | ret => obtain ⟨E', s', h1, h2⟩ := hq; exact fin h1 h2
      | exit id => obtain ⟨E', s', h1, h2⟩ := hq; exact h2.elim
      | goto l => obtain ⟨E', s', h1, h2⟩ := hq; exact h2.elim
      | panic ch => exact hq.elim
      | outgrown => exact hq.elim
    · exact h.elim
  · exact h.elim

/-- A function that is gone through where it is called. -/
theorem inlOK (hP : CxOk P cx) {f : Nat} {fn : Func} (hf : P.funcs[f]? = some fn) (hnt : Nat.beq fn.ntmps cx.nt = true) {An : List SV → List (Nat × Chunk) → Nat → Option Ann} {labs : List Nat} :
    InlOK P f (fun as m K => match Nat.ble as.length fn.ntmps with
      | true => wpI cx (An as m) labs fn as m K
      | false => False) := by
  intro B M I0 G w0 E m w as xs K h hxs hx hk
  split at hk
  · rename_i hn
    unfold wpI at hk
    split at hk
    · rename_i c hbody
      have hn' := Nat.le_of_ble_eq_true hn
      have hnt' := Nat.eq_of_beq_eq_true hnt
      have hrel : Rel P cx.nt B M I0 G w0 E ⟨args0 0 as, m⟩ ⟨xs ++ Array.replicate (fn.ntmps - xs.size) undef, []⟩ w := by
        refine ⟨rfl, ?_, h.fr, h.base, h.i0, h.inew, h.loc, h.inj, fun t => ?_, h.ch, h.ld, h.gv⟩
        · simp only [Array.size_append, Array.size_replicate]
          omega
        · dsimp only
          rw [args0_lk, if_pos (Nat.zero_le _), Nat.sub_zero]
          by_cases ht : t < xs.size
          · have e : (xs ++ Array.replicate (fn.ntmps - xs.size) undef).getD t undef = xs.getD t undef := by
              rw [Array.getD_eq_getD_getElem?, Array.getD_eq_getD_getElem?, Array.getElem?_append_left ht]
            rw [e]; exact hx t
          · rw [List.getD_eq_getElem?_getD, List.getElem?_eq_none (by omega)]
            exact .conc _ _ (.any _)
      refine calls_of_wp hf hbody (wp_mono (wpC_run hP (scopeH_ok hP) c 0 _ _ E _ w hrel hk) (fun e a' w' hq => ?_))
      have fin : ∀ {E' : Env} {s' : St}, Rel P cx.nt B M I0 G w0 E' s' a' w' → endI cx fn s' K → a'.defers = [] ∧ ∃ v, (results fn a'.tmps).run P w' = .ok v w' ∧ ∃ (x : Value) (r : SV) (m' : List (Nat × Chunk)) (E' : Env), Ending.returned v = .returned x ∧ Rel P 0 B M I0 G w0 E' ⟨[], m'⟩ ⟨#[], []⟩ w' ∧ CV E' (lkO m') w' x r ∧ K r m' := by
        intro E' s' h1 h2
        unfold endI at h2
        split at h2
        · rename_i hb
          rw [forceV_eq, forceM_eq] at h2
          obtain ⟨v, q1, q2⟩ := results_run hP h1 fn hb
          exact ⟨h1.defers, v, q1, v, _, s'.mem, E', rfl, ⟨rfl, rfl, h1.fr, h1.base, h1.i0, h1.inew, h1.loc, h1.inj, fun t => .conc _ _ (.any _), h1.ch, h1.ld, h1.gv⟩, q2, h2⟩
        · exact h2.elim
      cases e with
      | normal => obtain ⟨E', s', h1, h2⟩ := hq; exact fin h1 h2
      | ret => obtain ⟨E', s', h1, h2⟩ := hq; exact fin h1 h2
      | exit id => obtain ⟨E', s', h1, h2⟩ := hq; exact h2.elim
      | goto l => obtain ⟨E', s', h1, h2⟩ := hq; exact h2.elim
      | panic ch => exact hq.elim
      | outgrown => exact hq.elim
    · exact hk.elim
  · exact hk.elim
end
end Go.Rx

/- The framework, part 23: the tables, looked up in the program. -/
namespace Go.Rx

@[simp] theorem Ob_iff (p : Prop) : Ob p ↔ p := ⟨fun h => h.out, fun h => ⟨h⟩⟩

def zeroB : Value → SV → Bool
  | .int k n, .int k' n' => decide (k = k') && decide (n = n')
  | .bool true, .tt => true
  | .bool false, .ff => true
  | .string s, .str l => decide (s.data.toList = l)
  | .float .f64 b, .flt b' => decide (b = b')
  | .complex .f64 x y, .cpx x' y' => decide (x = x') && decide (y = y')
  | .slice none 0 0, .nilsl => true
  | .pointer none, .nilp => true
  | _, .any => true
  | _, _ => false
def zerosB : List Value → List SV → Bool
  | [], [] => true
  | x :: xs, v :: vs => zeroB x v && zerosB xs vs
  | _, _ => false

theorem zeroB_ok {x : Value} {v : SV} (h : zeroB x v = true) (I : Nat → Prop) (w : World) : Conc I w x v := by
  unfold zeroB at h
  split at h
  · simp only [Bool.and_eq_true, decide_eq_true_eq] at h
    rw [h.1, h.2]; exact .int _ _
  · exact .tt
  · exact .ff
  · simp only [decide_eq_true_eq] at h
    exact .str _ _ h
  · simp only [decide_eq_true_eq] at h
    rw [h]; exact .flt _
  · simp only [Bool.and_eq_true, decide_eq_true_eq] at h
    rw [h.1, h.2]; exact .cpx _ _
  · exact .nilsl
  · exact .nilp
  · exact .any _
  · cases h
theorem zerosB_ok : ∀ {xs : List Value} {vs : List SV}, zerosB xs vs = true → xs.length = vs.length ∧ ∀ (I : Nat → Prop) (w : World) (i : Nat), Conc I w (xs.getD i undef) (vs.getD i .any)
  | [], [], _ => ⟨rfl, fun I w i => by simpa using Conc.any _⟩
  | x :: xs, v :: vs, h => by
    simp only [zerosB, Bool.and_eq_true] at h
    obtain ⟨h1, h2⟩ := zerosB_ok h.2
    refine ⟨by simp [h1], fun I w i => ?_⟩
    cases i with
    | zero => simpa using zeroB_ok h.1 I w
    | succ i => simpa using h2 I w i
  | [], _ :: _, h => by cases h
  | _ :: _, [], h => by cases h

def fieldsB (P : Program) : List Field → List (Nat × Nat) → Bool
  | [], [] => true
  | f :: fs, (o, t) :: r => Nat.beq f.offset o && Nat.beq f.type t && (match P.info? f.type with
    | some inf => Nat.blt 0 inf.size
    | none => false) && fieldsB P fs r
  | _, _ => false

def tkB (P : Program) : TypeDesc → TK → Bool
  | .int k, .int k' => decide (k = k')
  | .bool, .bool => true
  | .string, .str => true
  | .float k, .flt => decide (k = .f64)
  | .complex k, .cpx => decide (k = .f64)
  | .struct fs, .struct fl => fieldsB P fs.toList fl
  | .array n e, .arr n' e' => Nat.beq n n' && Nat.beq e e'
  | .slice e, .sl e' => Nat.beq e e'
  | .pointer e, .ptr e' => Nat.beq e e'
  | .map k e, .mp k' e' => Nat.beq k k' && Nat.beq e e'
  | .func _ _ _, .fn => true
  | .tuple _, .tup => true
  | _, _ => false

theorem fieldsB_ok {P : Program} : ∀ {fs : List Field} {fl : List (Nat × Nat)}, fieldsB P fs fl = true → fs.length = fl.length ∧ ∀ (i : Nat) (f : Field), fs[i]? = some f → fl[i]? = some (f.offset, f.type) ∧ ∃ inf, P.info? f.type = some inf ∧ inf.size ≠ 0
  | [], [], _ => ⟨rfl, fun i f h => by simp at h⟩
  | g :: fs, (o, t) :: r, h => by
    simp only [fieldsB, Bool.and_eq_true] at h
    obtain ⟨⟨⟨h1, h2⟩, h3⟩, h4⟩ := h
    obtain ⟨h5, h6⟩ := fieldsB_ok h4
    refine ⟨by simp [h5], fun i f hf => ?_⟩
    cases i with
    | zero =>
      simp only [List.getElem?_cons_zero, Option.some.injEq] at hf
      subst hf
      refine ⟨by simp [Nat.eq_of_beq_eq_true h1, Nat.eq_of_beq_eq_true h2], ?_⟩
      split at h3
      · rename_i inf hi
        exact ⟨inf, hi, fun e => by rw [e] at h3; cases h3⟩
      · cases h3
    | succ i => simpa using h6 i f (by simpa using hf)
  | [], _ :: _, h => by cases h
  | _ :: _, [], h => by cases h

theorem tkB_ok {P : Program} {d : TypeDesc} {k : TK} (h : tkB P d k = true) : TkOk P d k := by
  unfold tkB at h
  split at h
  · rename_i k k'
    exact (of_decide_eq_true (p := k = k') h)
  · trivial
  · trivial
  · exact (of_decide_eq_true (p := _ = FloatKind.f64) h)
  · exact (of_decide_eq_true (p := _ = FloatKind.f64) h)
  · rename_i fs fl
    obtain ⟨h1, h2⟩ := fieldsB_ok h
    exact ⟨by simpa using h1, fun i f hf => h2 i f (by simpa using hf)⟩
  · simp only [Bool.and_eq_true] at h
    exact ⟨Nat.eq_of_beq_eq_true h.1, Nat.eq_of_beq_eq_true h.2⟩
  · exact Nat.eq_of_beq_eq_true h
  · exact Nat.eq_of_beq_eq_true h
  · simp only [Bool.and_eq_true] at h
    exact ⟨Nat.eq_of_beq_eq_true h.1, Nat.eq_of_beq_eq_true h.2⟩
  · trivial
  · trivial
  · cases h

def ckB (P : Program) (t : Nat) (c : CK) : Bool :=
  match P.underlying t with
  | some d => match d, c with
    | .int k, .int k' => decide (k = k')
    | .bool, .bool => true
    | .string, .str => true
    | _, _ => false
  | none => false

theorem ckB_ok {P : Program} {t : Nat} {c : CK} (h : ckB P t c = true) : CkOk P t c := by
  unfold ckB at h
  split at h
  · rename_i d hd
    split at h
    · have := of_decide_eq_true h
      subst this
      exact hd
    · exact hd
    · exact hd
    · cases h
  · cases h

def eqFieldsB (P : Program) : List Field → List CK → Nat → Bool
  | [], [], _ => true
  | f :: fs, k :: ks, i => !(f.name == "_") && Nat.beq f.offset i && ckB P f.type k && eqFieldsB P fs ks (i + 1)
  | _, _, _ => false

theorem eqFieldsB_ok {P : Program} : ∀ {fs : List Field} {ks : List CK} {n : Nat}, eqFieldsB P fs ks n = true → fs.length = ks.length ∧ ∀ (i : Nat) (f : Field), fs[i]? = some f → f.name ≠ "_" ∧ f.offset = n + i ∧ CkOk P f.type (ks.getD i .other)
  | [], [], _, _ => ⟨rfl, fun i f h => by simp at h⟩
  | g :: fs, k :: ks, n, h => by
    simp only [eqFieldsB, Bool.and_eq_true] at h
    obtain ⟨⟨⟨h1, h2⟩, h3⟩, h4⟩ := h
    obtain ⟨h5, h6⟩ := eqFieldsB_ok h4
    refine ⟨by simp [h5], fun i f hf => ?_⟩
    cases i with
    | zero =>
      simp only [List.getElem?_cons_zero, Option.some.injEq] at hf
      subst hf
      exact ⟨by simpa using h1, Nat.eq_of_beq_eq_true h2, ckB_ok h3⟩
    | succ i =>
      obtain ⟨q1, q2, q3⟩ := h6 i f (by simpa using hf)
      exact ⟨q1, by omega, by simpa using q3⟩
  | [], _ :: _, _, h => by cases h
  | _ :: _, [], _, h => by cases h

def zvI (k : IntKind) (n : Int) : Option Value → Bool
  | some (.int k' n') => decide (k' = k) && decide (n' = n)
  | _ => false
def zvF : Option Value → Bool
  | some (.bool b) => !b
  | _ => false
def zvS : Option Value → Bool
  | some (.string s) => decide (s.data.toList = [])
  | _ => false
def zvB (z : Option Value) (l : List SV) : Bool :=
  match l with
  | [.int k n] => zvI k n z
  | [.ff] => zvF z
  | [.str []] => zvS z
  | _ => true
theorem zvB_ok {z : Option Value} {l : List SV} (h : zvB z l = true) {x : Value} (hx : zVal l = some x) : z = some x := by
  unfold zVal at hx
  split at hx
  · cases hx
    have h : zvI _ _ z = true := h
    unfold zvI at h
    split at h
    · simp only [Bool.and_eq_true, decide_eq_true_eq] at h
      rw [h.1, h.2]
    · cases h
  · cases hx
    have h : zvF z = true := h
    unfold zvF at h
    split at h
    · simp only [Bool.not_eq_true'] at h
      rw [h]
    · cases h
  · cases hx
    have h : zvS z = true := h
    unfold zvS at h
    split at h
    · rename_i s h0
      have h : s.data.toList = [] := by simpa using h
      obtain ⟨⟨l⟩⟩ := s
      cases h; rfl
    · cases h
  · cases hx

def tyB (P : Program) (t : Nat) (L : TyL) : Bool :=
  (match P.info? t with
   | some inf => Nat.beq inf.size L.ks.length && Nat.beq inf.bytes L.bytes && (match inf.zero with
     | some z => Nat.beq z.cells.size L.ks.length && Nat.beq L.zero.length L.ks.length && zerosB z.cells.toList L.zero
     | none => false)
   | none => false) &&
  (match P.underlying t with
   | some d => tkB P d L.k && (!L.eq || (match d with
     | .struct fs => !P.stoodInHeld t && !P.eqGuardType P.depth t && eqFieldsB P fs.toList L.ks 0
     | _ => false))
   | none => false) && (L.k.agg || Nat.beq L.ks.length 1) && (match P.info? t with
    | some inf => zvB inf.zero L.zero
    | none => false)

theorem tyB_ok {P : Program} {t : Nat} {L : TyL} (h : tyB P t L = true) : TyOk P t L := by
  unfold tyB at h
  rw [Bool.and_eq_true] at h
  obtain ⟨h, hzv⟩ := h
  have hzv : ∀ x, zVal L.zero = some x → ∃ inf, P.info? t = some inf ∧ inf.zero = some x := fun x hx => by
    split at hzv
    · rename_i inf hi
      exact ⟨inf, hi, zvB_ok hzv hx⟩
    · cases hzv
  simp only [Bool.and_eq_true] at h
  obtain ⟨⟨h1, h2⟩, h3⟩ := h
  split at h1
  · rename_i inf hinf
    simp only [Bool.and_eq_true] at h1
    obtain ⟨⟨h4, h5⟩, h6⟩ := h1
    split at h6
    · rename_i z hz
      simp only [Bool.and_eq_true] at h6
      obtain ⟨⟨h7, h8⟩, h9⟩ := h6
      split at h2
      · rename_i d hd
        rw [Bool.and_eq_true] at h2
        refine ⟨⟨inf, z, hinf, Nat.eq_of_beq_eq_true h4, Nat.eq_of_beq_eq_true h5, hz, Nat.eq_of_beq_eq_true h7, Nat.eq_of_beq_eq_true h8, fun I w i => ?_⟩, ⟨d, hd, tkB_ok h2.1⟩, fun ha => ?_, fun he => ?_, hzv⟩
        · have := (zerosB_ok h9).2 I w i
          rw [Array.getD_eq_getD_getElem?]
          rw [List.getD_eq_getElem?_getD, Array.getElem?_toList] at this
          exact this
        · rw [ha] at h3
          exact Nat.eq_of_beq_eq_true (by simpa using h3)
        · obtain ⟨_, hq⟩ := h2
          rw [he, Bool.not_true, Bool.false_or] at hq
          split at hq
          · rename_i fs _
            simp only [Bool.and_eq_true, Bool.not_eq_true'] at hq
            obtain ⟨⟨q1, q2⟩, q3⟩ := hq
            obtain ⟨q4, q5⟩ := eqFieldsB_ok q3
            exact ⟨fs, hd, q1, q2, by simpa using q4, fun i f hf => by have := q5 i f (by simpa using hf); simpa using this⟩
          · cases hq
      · cases h2
    · cases h6
  · cases h1

def tysB (P : Program) : List (Nat × TyL) → Bool
  | [] => true
  | (t, L) :: r => tyB P t L && tysB P r
theorem tysB_ok {P : Program} : ∀ {l : List (Nat × TyL)}, tysB P l = true → ∀ t L, lkO l t = some L → TyOk P t L
  | [], _, t, L, h => by cases h
  | (k, v) :: r, hb, t, L, h => by
    simp only [tysB, Bool.and_eq_true] at hb
    rw [lkO_cons] at h
    by_cases e : k = t
    · subst e
      rw [if_pos rfl] at h
      cases h
      exact tyB_ok hb.1
    · rw [if_neg e] at h
      exact tysB_ok hb.2 t L h

def fnB (P : Program) (f : Nat) : Bool :=
  match P.funcs[f]? with
  | some fn => !fn.body.isNone && !(fn.name == "runtime.NumGoroutine")
  | none => false
theorem fnB_ok {P : Program} {f : Nat} (h : fnB P f = true) : FnB P f := by
  unfold fnB at h
  split at h
  · rename_i fn hf
    simp only [Bool.and_eq_true, Bool.not_eq_true'] at h
    exact ⟨fn, hf, h.1, h.2⟩
  · cases h

/-- What is known of a function: its contract holds. -/
structure Known (P : Program) [Laid P] (f : Nat) (c : Con) : Prop where
  b : FnB P f
  ok : ∀ as, closedAL as = true → obH (c.pre as) → closed (c.res as) = true ∧ FnOK P f as (c.res as)

inductive Knows (P : Program) [Laid P] : List (Nat × Con) → Prop where
  | nil : Knows P []
  | cons {f : Nat} {c : Con} {r : List (Nat × Con)} : Known P f c → Knows P r → Knows P ((f, c) :: r)

theorem Knows.get {P : Program} [Laid P] {l : List (Nat × Con)} (h : Knows P l) : ∀ f c, lkO l f = some c → Known P f c := by
  induction h with
  | nil => intro f c h; cases h
  | @cons g _ _ h1 _ ih =>
    intro f c h
    rw [lkO_cons] at h
    by_cases e : g = f
    · subst e; rw [if_pos rfl] at h; cases h; exact h1
    · rw [if_neg e] at h; exact ih f c h

theorem cxOk {P : Program} [Laid P] {lit : Bool} {nt : Nat} {ty : List (Nat × TyL)} {fn : List (Nat × Con)} (hm : P.follows .mixedOrders = true) (ht : ∀ t L, lkO ty t = some L → TyOk P t L) (hf : Knows P fn) : CxOk P ⟨nt, ty, fn, lit, 0, [], false⟩ :=
  ⟨hm, ht, fun f c h => (hf.get f c h).b, fun f c h => (hf.get f c h).ok, fun f T h => (by cases h), fun f T h => (by cases h)⟩

/-- What is known of a function that is gone through where it is called. -/
structure InK (P : Program) [Laid P] (f : Nat) (T : Tr) : Prop where
  b : FnB P f
  ok : ∀ off, InlOK P f (T off)
inductive InKs (P : Program) [Laid P] : List (Nat × Tr) → Prop where
  | nil : InKs P []
  | cons {f : Nat} {T : Tr} {r : List (Nat × Tr)} : InK P f T → InKs P r → InKs P ((f, T) :: r)
theorem InKs.get {P : Program} [Laid P] {l : List (Nat × Tr)} (h : InKs P l) : ∀ f T, lkO l f = some T → InK P f T := by
  induction h with
  | nil => intro f T h; cases h
  | @cons g _ _ h1 _ ih =>
    intro f T h
    rw [lkO_cons] at h
    by_cases e : g = f
    · subst e; rw [if_pos rfl] at h; cases h; exact h1
    · rw [if_neg e] at h; exact ih f T h
theorem cxOkI {P : Program} [Laid P] {lit : Bool} {nt off : Nat} {ty : List (Nat × TyL)} {fn : List (Nat × Con)} {inl : List (Nat × Tr)} {pl : Bool} (hm : P.follows .mixedOrders = true) (ht : ∀ t L, lkO ty t = some L → TyOk P t L) (hf : Knows P fn) (hi : InKs P inl) : CxOk P ⟨nt, ty, fn, lit, off, inl, pl⟩ :=
  ⟨hm, ht, fun f c h => (hf.get f c h).b, fun f c h => (hf.get f c h).ok, fun f T h => (hi.get f T h).b, fun f T h => (hi.get f T h).ok⟩

/-- Memory, each key once, written out. -/
def dedK : List (Nat × Chunk) → List Nat → (List (Nat × Chunk) → Prop) → Prop
  | [], _, k => k []
  | (x, c) :: r, acc, k => match acc.contains x with
    | true => dedK r acc k
    | false => dedK r (x :: acc) (fun m => k ((x, c) :: m))
def dedF : List (Nat × Chunk) → List Nat → List (Nat × Chunk)
  | [], _ => []
  | (x, c) :: r, acc => match acc.contains x with
    | true => dedF r acc
    | false => (x, c) :: dedF r (x :: acc)
theorem dedK_eq : ∀ (m : List (Nat × Chunk)) (acc : List Nat) (k : List (Nat × Chunk) → Prop), dedK m acc k = k (dedF m acc)
  | [], _, _ => rfl
  | (x, c) :: r, acc, k => by
    unfold dedK dedF
    cases acc.contains x with
    | true => exact dedK_eq r acc k
    | false => exact dedK_eq r (x :: acc) _

/-- A function, as what is gone through where it is called. -/
def trOf (nt : Nat) (ty : List (Nat × TyL)) (fs : List (Nat × Con)) (lit : Bool) (inl : List (Nat × Tr)) (pl : Bool) (An : Nat → List SV → List (Nat × Chunk) → Nat → Option Ann) (labs : List Nat) (fn : Func) : Tr := fun off as m K =>
  match Nat.ble as.length fn.ntmps with
  | true => dedK m [] (fun md => wpI ⟨nt, ty, fs, lit, off, inl, pl⟩ (An off as md) labs fn as m K)
  | false => False
theorem inK1 {P : Program} [Laid P] {f : Nat} {ty : List (Nat × TyL)} {fn : Func} {nt : Nat} {fs : List (Nat × Con)} {inl : List (Nat × Tr)} {An : Nat → List SV → List (Nat × Chunk) → Nat → Option Ann} {labs : List Nat} {lit pl : Bool}
    (hb : fnB P f = true) (hm : P.follows .mixedOrders = true) (ht : ∀ t L, lkO ty t = some L → TyOk P t L) (hk : Knows P fs) (hi : InKs P inl) (hf : P.funcs[f]? = some fn) (hnt : Nat.beq fn.ntmps nt = true) : InK P f (trOf nt ty fs lit inl pl An labs fn) :=
  ⟨fnB_ok hb, fun off => by
    have h := inlOK (cx := ⟨nt, ty, fs, lit, off, inl, pl⟩) (cxOkI hm ht hk hi) hf hnt (An := fun as m => An off as (dedF m [])) (labs := labs)
    have e : trOf nt ty fs lit inl pl An labs fn off = (fun as m K => match Nat.ble as.length fn.ntmps with
      | true => wpI ⟨nt, ty, fs, lit, off, inl, pl⟩ (An off as (dedF m [])) labs fn as m K
      | false => False) := by
      funext as m K
      unfold trOf
      simp only [dedK_eq]
    rw [e]; exact h⟩
end Go.Rx

/- The framework, part 24: a law's row: arguments of plain kinds, opened; what is read behind the call. -/
namespace Go.Rx
open Go.ChangeShapes Go.WideShapes Go.ChangeAt Go.RowKit


/-- The greatest length of a text that may be handed over. -/
def maxStr : Nat := 140737488351232
mutual
/-- A value of a kind, as an argument may be. -/
def wfK : CK → SV → Prop
  | .int k, v => ∃ n, v = .int k n ∧ k.min ≤ n ∧ n ≤ k.max
  | .bool, v => ∃ b, v = .bool b
  | .str, v => ∃ s, v = .str s ∧ s.length ≤ maxStr
  | .flt, _ => False
  | .cpx, _ => False
  | .sl ks, v => ∃ l : List (List SV), v = .sl ks (l.map elOf) ∧ l.length ≤ maxLen ∧ ∀ us, us ∈ l → wfKs ks us
  | .other, _ => False
def wfKs : List CK → List SV → Prop
  | [], us => us = []
  | k :: ks, us => ∃ v vs, us = v :: vs ∧ wfK k v ∧ wfKs ks vs
end

theorem wfKs_length : ∀ {ks : List CK} {us : List SV}, wfKs ks us → us.length = ks.length
  | [], us, h => by rw [wfKs] at h; subst h; rfl
  | k :: ks, us, h => by
    rw [wfKs] at h
    obtain ⟨v, vs, rfl, _, h2⟩ := h
    simp [wfKs_length h2]

theorem wfKs_app : ∀ {ks ks' : List CK} {us us' : List SV}, wfKs ks us → wfKs ks' us' → wfKs (ks ++ ks') (us ++ us')
  | [], ks', us, us', h, h' => by rw [wfKs] at h; subst h; exact h'
  | k :: ks, ks', us, us', h, h' => by
    rw [wfKs] at h
    obtain ⟨v, vs, rfl, h1, h2⟩ := h
    rw [List.cons_append, wfKs]
    exact ⟨v, vs ++ us', rfl, h1, wfKs_app h2 h'⟩

theorem wfK_cells {k : CK} {v : SV} (h : wfK k v) : v.cells = [v] := by
  cases k <;> rw [wfK] at h
  · obtain ⟨n, rfl, _⟩ := h; rfl
  · obtain ⟨n, rfl⟩ := h; rfl
  · obtain ⟨n, rfl, _⟩ := h; rfl
  · exact h.elim
  · exact h.elim
  · obtain ⟨n, rfl, _⟩ := h; rfl
  · exact h.elim

theorem wfK_kOk {k : CK} {v : SV} (h : wfK k v) : kOk k v := by
  cases k <;> rw [wfK] at h
  · obtain ⟨n, rfl, _⟩ := h; exact ⟨n, rfl⟩
  · obtain ⟨n, rfl⟩ := h; exact .inr (.inr ⟨n, rfl⟩)
  · obtain ⟨n, rfl, _⟩ := h; exact ⟨n, rfl⟩
  · exact h.elim
  · exact h.elim
  · obtain ⟨n, rfl, _⟩ := h; exact .inr ⟨_, rfl⟩
  · exact h.elim

theorem wfKs_get : ∀ {ks : List CK} {us : List SV}, wfKs ks us → ∀ j, j < ks.length → wfK (ks.getD j .other) (us.getD j .any)
  | [], us, h, j, hj => by simp at hj
  | k :: ks, us, h, j, hj => by
    rw [wfKs] at h
    obtain ⟨v, vs, rfl, h1, h2⟩ := h
    cases j with
    | zero => exact h1
    | succ j => simpa using wfKs_get h2 j (by simpa using hj)

theorem elOf_cells {ks : List CK} {us : List SV} (h : wfKs ks us) : (elOf us).cells = us := by
  unfold elOf
  split
  · rename_i u
    cases ks with
    | nil => rw [wfKs] at h; cases h
    | cons k ks =>
      rw [wfKs] at h
      obtain ⟨v, vs, e, h1, h2⟩ := h
      cases e
      exact wfK_cells h1
  · rfl

theorem wfKs_shOk {ks : List CK} {us : List SV} (h : wfKs ks us) : shOk ks (elOf us) := by
  refine ⟨by rw [elOf_cells h, wfKs_length h], fun j hj => ?_⟩
  rw [elOf_cells h]
  exact wfK_kOk (wfKs_get h j hj)

/-- The kinds of a type's cells. -/
def fieldKs (P : Program) (g : TypeId → Option (List CK)) : List Field → List CK → Option (List CK)
  | [], acc => some acc
  | f :: r, acc => match g f.type with
    | some ks => match Nat.beq f.offset acc.length && Nat.beq (P.cellsOf f.type) ks.length with
      | true => fieldKs P g r (acc ++ ks)
      | false => none
    | none => none
def repK (ks : List CK) : Nat → List CK
  | 0 => []
  | n + 1 => repK ks n ++ ks
def kindsOf (P : Program) : Nat → TypeId → Option (List CK)
  | 0, _ => none
  | n + 1, t => match P.underlying t with
    | some d => match d with
      | .bool => some [.bool]
      | .int k => some [.int k]
      | .string => some [.str]
      | .slice e => match kindsOf P n e with
        | some ks => match Nat.beq (P.cellsOf e) ks.length && Nat.blt 0 ks.length with
          | true => some [.sl ks]
          | false => none
        | none => none
      | .struct fs => match fieldKs P (kindsOf P n) fs.toList [] with
        | some ks => match Nat.beq (P.cellsOf t) ks.length with
          | true => some ks
          | false => none
        | none => none
      | .array m e => match kindsOf P n e with
        | some ks => match Nat.beq (P.cellsOf e) ks.length && Nat.beq (P.cellsOf t) (m * ks.length) with
          | true => some (repK ks m)
          | false => none
        | none => none
      | _ => none
    | none => none

structure Opened (I : Nat → Prop) (w : World) (ks : List CK) (cs : List Value) (us : List SV) : Prop where
  len : cs.length = ks.length
  conc : ∀ j, Conc I w (cs.getD j undef) (us.getD j .any)
  wf : wfKs ks us

theorem Opened.app {I : Nat → Prop} {w : World} {ks ks' : List CK} {cs cs' : List Value} {us us' : List SV} (h : Opened I w ks cs us) (h' : Opened I w ks' cs' us') : Opened I w (ks ++ ks') (cs ++ cs') (us ++ us') := by
  refine ⟨by simp [h.len, h'.len], fun j => ?_, wfKs_app h.wf h'.wf⟩
  have e := wfKs_length h.wf
  have e2 := h.len
  by_cases hj : j < ks.length
  · have := h.conc j
    simp only [List.getD_eq_getElem?_getD] at this ⊢
    rw [List.getElem?_append_left (by omega), List.getElem?_append_left (by omega)]
    exact this
  · have := h'.conc (j - ks.length)
    simp only [List.getD_eq_getElem?_getD] at this ⊢
    rw [List.getElem?_append_right (by omega), List.getElem?_append_right (by omega), e, e2]
    exact this

theorem Opened.one {I : Nat → Prop} {w : World} {k : CK} {x : Value} {u : SV} (h : Conc I w x u) (hw : wfK k u) : Opened I w [k] [x] [u] := by
  refine ⟨rfl, fun j => ?_, ?_⟩
  · cases j with
    | zero => exact h
    | succ j => simpa using Conc.any _
  · rw [wfKs]; exact ⟨u, [], rfl, hw, by rw [wfKs]⟩

theorem Opened.nil {I : Nat → Prop} {w : World} : Opened I w [] [] [] := ⟨rfl, fun j => by simpa using Conc.any _, by rw [wfKs]⟩

theorem open_fields {P : Program} {I : Nat → Prop} {w : World} {g : TypeId → Option (List CK)} {cs : List Value} : ∀ (fs : List Field) (acc ks : List CK) (us0 : List SV), fieldKs P g fs acc = some ks → cs.length = ks.length →
    Opened I w acc (cs.take acc.length) us0 → (∀ f, f ∈ fs → ∀ kf, g f.type = some kf → ∃ us, Opened I w kf ((cs.drop f.offset).take (P.cellsOf f.type)) us) → ∃ us, Opened I w ks cs us
  | [], acc, ks, us0, h, hl, h0, _ => by
    simp only [fieldKs, Option.some.injEq] at h
    subst h
    rw [List.take_of_length_le (by omega)] at h0
    exact ⟨us0, h0⟩
  | f :: r, acc, ks, us0, h, hl, h0, hf => by
    simp only [fieldKs] at h
    split at h
    · rename_i kf hkf
      split at h
      · rename_i hb
        simp only [Bool.and_eq_true] at hb
        have e1 := Nat.eq_of_beq_eq_true hb.1
        have e2 := Nat.eq_of_beq_eq_true hb.2
        obtain ⟨us1, h1⟩ := hf f (by simp) kf hkf
        rw [e1, e2] at h1
        refine open_fields r (acc ++ kf) ks (us0 ++ us1) h hl ?_ (fun f' hf' => hf f' (by simp [hf']))
        have := h0.app h1
        rw [List.length_append, List.take_add]
        exact this
      · cases h
    · cases h

theorem open_rep {I : Nat → Prop} {w : World} {cs : List Value} {ks : List CK} : ∀ (m : Nat), (∀ i, i < m → ∃ us, Opened I w ks ((cs.drop (i * ks.length)).take ks.length) us) → ∃ us, Opened I w (repK ks m) (cs.take (m * ks.length)) us
  | 0, _ => ⟨[], by simpa [repK] using Opened.nil⟩
  | m + 1, h => by
    obtain ⟨us, h0⟩ := open_rep m (fun i hi => h i (by omega))
    obtain ⟨us1, h1⟩ := h m (by omega)
    refine ⟨us ++ us1, ?_⟩
    rw [repK, Nat.succ_mul, List.take_add]
    exact h0.app h1

theorem repK_length (ks : List CK) : ∀ m, (repK ks m).length = m * ks.length
  | 0 => by simp [repK]
  | m + 1 => by rw [repK, List.length_append, repK_length ks m, Nat.succ_mul]

theorem below_cell {w : World} {a : Addr} {x : Value} (h : w.cell? a = some x) : a.block < w.heap.size ∧ a.spot = none := by
  unfold World.cell? at h
  split at h
  · rename_i c e r hb
    split at h
    · cases h
    · rename_i hs
      refine ⟨?_, by simpa using hs⟩
      exact (Array.getElem?_eq_some_iff.1 hb).1
  · cases h

theorem mapM_all {α β : Type} {f : α → Option β} : ∀ {l : List α} {r : List β}, l.mapM f = some r → ∀ (i : Nat) (x : α), l[i]? = some x → ∃ y, r[i]? = some y ∧ f x = some y
  | [], r, h, i, x, hx => by simp at hx
  | a :: l, r, h, i, x, hx => by
    rw [List.mapM_cons] at h
    cases ha : f a with
    | none => simp [ha] at h
    | some b =>
      cases has : l.mapM f with
      | none => simp [ha, has] at h
      | some bs =>
        simp [ha, has] at h
        subst h
        cases i with
        | zero => simp at hx; subst hx; exact ⟨b, rfl, ha⟩
        | succ i => simpa using mapM_all has i x (by simpa using hx)

section
variable {H : Type} {enc : TypeId × Value → H} {P : Program} {w : World} {base : Nat} {spare : Nat → Bool} {held : Bool}

theorem weightsAll_mem' {e : TypeId} : ∀ {l : List (DataW H)} {d : DataW H}, d ∈ l → ∀ n ∈ d.weights P e, n ∈ DataW.weightsAll P e l
  | d0 :: l, d, h, n, hn => by
    simp only [DataW.weightsAll, List.mem_append]
    rcases List.mem_cons.1 h with rfl | h
    · exact .inl hn
    · exact .inr (weightsAll_mem' h n hn)

/-- What may be read of an argument is one of the abstract values. -/
theorem open_cells : ∀ (n : Nat) {t : TypeId} {ks : List CK} {fuel : Nat} {cs : List Value} {x : DataW H × List MemPlace}, kindsOf P n t = some ks → DataW.trod enc P w base spare held fuel t cs = some x →
    (∀ m ∈ x.1.weights P t, m ≤ reachBytes) → ∃ us, Opened (fun b => b < w.heap.size) w ks cs us
  | 0, t, ks, fuel, cs, x, hk, _, _ => by cases hk
  | n + 1, t, ks, fuel, cs, x, hk, h, hz => by
    unfold kindsOf at hk
    split at hk
    · rename_i d ht
      split at hk
      · cases hk
        obtain ⟨b, rfl, _⟩ := DataW.trod_bool ht h
        exact ⟨[.bool b], .one (.bool b) (by rw [wfK]; exact ⟨b, rfl⟩)⟩
      · cases hk
        rename_i k
        obtain ⟨m, rfl, _, hw⟩ := DataW.trod_int ht h
        simp only [Lit.wf, Bool.and_eq_true, decide_eq_true_eq] at hw
        exact ⟨[.int k m], .one (.int _ _) (by rw [wfK]; exact ⟨m, rfl, hw⟩)⟩
      · cases hk
        obtain ⟨s, rfl, hx, hw⟩ := DataW.trod_string ht h
        have hw := hz s.data.toList.length (by rw [hx]; simp [DataW.weights])
        exact ⟨[.str s.data.toList], .one (.str _ _ rfl) (by rw [wfK]; exact ⟨_, rfl, hw⟩)⟩
      · rename_i e
        split at hk
        · rename_i ks' hke
          split at hk
          · rename_i hb
            cases hk
            simp only [Bool.and_eq_true] at hb
            have e1 := Nat.eq_of_beq_eq_true hb.1
            have e2 : 0 < ks'.length := (by have := hb.2; rw [Nat.blt_eq] at this; exact this)
            rcases DataW.trod_slice ht h with ⟨rfl, _⟩ | ⟨a, len, cap, elems, rest, m, _, rfl, hx, hba, hlc, hcm, hlen, hel, _⟩
            · exact ⟨[.sl ks' []], .one (.sl0 none 0 ks') (by rw [wfK]; exact ⟨[], rfl, by simp, by simp⟩)⟩
            · rcases Nat.eq_zero_or_pos len with rfl | hpos
              · exact ⟨[.sl ks' []], .one (.sl0 _ _ ks') (by rw [wfK]; exact ⟨[], rfl, by simp, by simp⟩)⟩
              · have each : ∀ i, i < len → ∃ c us, w.cells? base (a.add (i * P.cellsOf e)) (P.cellsOf e) = some c ∧ Opened (fun b => b < w.heap.size) w ks' c us := by
                  intro i hi
                  have h1 := hel i hi
                  rw [List.getElem?_eq_getElem (by omega), Option.bind_eq_some_iff] at h1
                  obtain ⟨c, hc, hy⟩ := h1
                  obtain ⟨us, hus⟩ := open_cells n hke hy (fun m hm => hz m (by
                    rw [hx]
                    simp only [DataW.weights, ht, List.mem_cons, List.mem_append]
                    exact .inr (.inl (weightsAll_mem' (List.mem_map.2 ⟨_, List.getElem_mem _, rfl⟩) m hm))))
                  exact ⟨c, us, hc, hus⟩
                have cell : ∀ i, i < len → ∀ c, w.cells? base (a.add (i * P.cellsOf e)) (P.cellsOf e) = some c → ∀ j, j < ks'.length → w.cell? ((a.add (i * P.cellsOf e)).add j) = some (c.getD j undef) := by
                  intro i hi c hc j hj
                  have h3 := World.cells?_some hc
                  have h4 := h3.2.2 j (by omega)
                  have h5 := h3.2.1
                  rw [h4, List.getD_eq_getElem?_getD, List.getElem?_eq_getElem (by omega)]
                  rfl
                have hsp : a.block < w.heap.size ∧ a.spot = none := by
                  obtain ⟨c, us, hc, _⟩ := each 0 hpos
                  have h4 := cell 0 hpos c hc 0 e2
                  simp only [Nat.zero_mul, Addr.add, if_true] at h4
                  exact below_cell h4
                have hav : ∀ k, a.add k = ⟨a.block, a.off + k, none⟩ := by
                  intro k
                  obtain ⟨b, off, sp⟩ := a
                  simp only at hsp
                  rw [hsp.2]
                  unfold Addr.add
                  split <;> simp_all
                obtain ⟨cf, hcf⟩ : ∃ cf : Nat → List Value, ∀ i, i < len → w.cells? base (a.add (i * P.cellsOf e)) (P.cellsOf e) = some (cf i) :=
                  ⟨fun i => if hi : i < len then (each i hi).choose else [], fun i hi => by simp only [hi, dif_pos]; exact (each i hi).choose_spec.choose_spec.1⟩
                have each' : ∀ i, i < len → ∃ us, Opened (fun b => b < w.heap.size) w ks' (cf i) us := by
                  intro i hi
                  obtain ⟨c, us, hc, hus⟩ := each i hi
                  rw [hcf i hi] at hc
                  cases hc
                  exact ⟨us, hus⟩
                obtain ⟨uf, huf⟩ : ∃ uf : Nat → List SV, ∀ i, i < len → Opened (fun b => b < w.heap.size) w ks' (cf i) (uf i) :=
                  ⟨fun i => if hi : i < len then (each' i hi).choose else [], fun i hi => by simp only [hi, dif_pos]; exact (each' i hi).choose_spec⟩
                let L : List (List SV) := (List.range len).map uf
                have hLl : (L.map elOf).length = len := by simp [L]
                have hLg : ∀ i, i < len → (L.map elOf).getD i .any = elOf (uf i) := by
                  intro i hi
                  simp [L, List.getD_eq_getElem?_getD, hi]
                have hwf : ∀ us, us ∈ L → wfKs ks' us := by
                  intro us hus
                  simp only [L, List.mem_map, List.mem_range] at hus
                  obtain ⟨i, hi, rfl⟩ := hus
                  exact (huf i hi).wf
                refine ⟨[.sl ks' (L.map elOf)], .one ?_ (by rw [wfK]; exact ⟨L, rfl, by simp [L]; omega, hwf⟩)⟩
                have ha : a = ⟨a.block, a.off, none⟩ := by have := hav 0; simpa [Addr.add] using this
                have key : Conc (fun b => b < w.heap.size) w (.slice (some ⟨a.block, a.off, none⟩) (L.map elOf).length cap) (.sl ks' (L.map elOf)) := by
                  refine .sl a.block a.off cap ks' (L.map elOf) (fun i j => (cf i).getD j undef) hsp.1 (by omega) (fun e he => ?_) (fun i j hi hj => ?_) (fun i j hi hj => ?_)
                  · obtain ⟨us, hus, rfl⟩ := List.mem_map.1 he
                    exact wfKs_shOk (hwf us hus)
                  · rw [hLl] at hi
                    have := cell i hi (cf i) (hcf i hi) j hj
                    rw [hav, e1] at this
                    unfold Addr.add at this
                    split at this
                    · rename_i h0; subst h0; simpa using this
                    · simpa using this
                  · rw [hLl] at hi
                    unfold elCell
                    rw [hLg i hi, elOf_cells (huf i hi).wf]
                    exact (huf i hi).conc j
                rw [hLl, ← ha] at key
                exact key
          · cases hk
        · cases hk
      · rename_i fs
        split at hk
        · rename_i ks' hke
          split at hk
          · rename_i hb
            cases hk
            obtain ⟨xs, m, _, hx, hl, hxl, hf⟩ := DataW.trod_struct ht h
            refine open_fields fs.toList [] ks [] hke (by rw [hl]; exact Nat.eq_of_beq_eq_true hb) (by simp only [List.length_nil, List.take_zero]; exact Opened.nil) (fun f hf' kf hkf => ?_)
            obtain ⟨i, hi, hget⟩ := List.mem_iff_getElem.1 hf'
            have hfi : fs[i]? = some f := by
              rw [← Array.getElem?_toList, List.getElem?_eq_getElem hi, hget]
            have := hf i f hfi
            have hlt : i < xs.length := by simp at hi; omega
            rw [List.getElem?_eq_getElem hlt] at this
            refine open_cells n hkf this (fun m hm => hz m ?_)
            rw [hx]
            simp only [DataW.weights, ht]
            refine DataW.weights_mem_each (j := i) (t := f.type) (d := xs[i].1) ?_ ?_ m hm
            · rw [List.getElem?_map, Array.getElem?_toList, hfi]; rfl
            · rw [List.getElem?_map, List.getElem?_eq_getElem hlt]; rfl
          · cases hk
        · cases hk
      · rename_i m e
        split at hk
        · rename_i ks' hke
          split at hk
          · rename_i hb
            cases hk
            simp only [Bool.and_eq_true] at hb
            have e1 := Nat.eq_of_beq_eq_true hb.1
            have e2 := Nat.eq_of_beq_eq_true hb.2
            cases fuel with
            | zero => simp [DataW.trod] at h
            | succ fuel =>
              unfold DataW.trod at h
              rw [ht] at h
              simp only at h
              split at h
              · rename_i hl
                rw [Option.map_eq_some_iff] at h
                obtain ⟨xs, hxs, hx⟩ := h
                have := open_rep (I := fun b => b < w.heap.size) (w := w) (cs := cs) (ks := ks') m (fun i hi => by
                  obtain ⟨y, hy, hy2⟩ := mapM_all hxs i i (by simp [hi])
                  rw [e1] at hy2
                  refine open_cells n hke hy2 (fun m hm => hz m ?_)
                  rw [← hx]
                  simp only [DataW.weights, ht]
                  exact weightsAll_mem' (List.mem_map.2 ⟨y, List.mem_of_getElem? hy, rfl⟩) m hm)
                obtain ⟨us, hus⟩ := this
                refine ⟨us, ?_⟩
                rw [List.take_of_length_le (by omega)] at hus
                exact hus
              · cases h
          · cases hk
        · cases hk
      · cases hk
    · cases hk

/-- Is a type one of several cells? -/
def aggT (P : Program) (t : TypeId) : Bool :=
  match P.underlying t with
  | some (.struct _) => true
  | some (.array _ _) => true
  | _ => false

def topSV : Bool → List SV → SV
  | true, us => .agg us
  | false, us => us.headD .any

theorem open_arg {n : Nat} {t : TypeId} {v : Value} {ks : List CK} {b0 : Nat} {d : DataW H} {ps : List MemPlace} (hk : kindsOf P n t = some ks) (hv : Value.okWide P w .any b0 t v) (h : DataW.Trod enc P w base spare held t v d ps) (hz : ∀ m ∈ d.weights P t, m ≤ reachBytes) :
    ∃ us, wfKs ks us ∧ Conc (fun b => b < w.heap.size) w v (topSV (aggT P t) us) := by
  obtain ⟨fuel, h⟩ := h
  obtain ⟨us, hus⟩ := open_cells n hk h hz
  refine ⟨us, hus.wf, ?_⟩
  cases ha : aggT P t with
  | true =>
    have : ∃ cs, v = .agg cs := by
      unfold aggT at ha
      unfold Value.okWide at hv
      split at ha
      · rename_i fs hu
        rw [hu] at hv
        obtain ⟨cs, rfl, _⟩ := hv
        exact ⟨cs, rfl⟩
      · rename_i m e hu
        rw [hu] at hv
        obtain ⟨cs, rfl, _⟩ := hv
        exact ⟨cs, rfl⟩
      · cases ha
    obtain ⟨cs, rfl⟩ := this
    refine .agg _ _ ?_ (fun i => ?_)
    · have := hus.len
      simp only [Value.cells] at this
      rw [wfKs_length hus.wf, ← this, Array.length_toList]
    · have := hus.conc i
      rw [Array.getD_eq_getD_getElem?]
      rw [List.getD_eq_getElem?_getD] at this
      simpa [Value.cells] using this
  | false =>
    have hc : v.cells = #[v] := by
      unfold kindsOf at hk
      cases n with
      | zero => cases hk
      | succ n =>
        unfold aggT at ha
        simp only at hk
        split at hk
        · rename_i dd ht
          split at hk
          · obtain ⟨b, rfl⟩ := okWide_bool ht hv; rfl
          · obtain ⟨b, rfl⟩ := okWide_int ht hv; rfl
          · obtain ⟨b, rfl⟩ := okWide_string ht hv; rfl
          · obtain ⟨a, b, c, rfl⟩ := okWide_slice ht hv; rfl
          · rw [ht] at ha; cases ha
          · rw [ht] at ha; cases ha
          · cases hk
        · cases hk
    have := hus.conc 0
    rw [hc] at this
    cases us with
    | nil => exact .any _
    | cons u us => simpa [topSV] using this

/-- What a function may be given: by its parameters. -/
def argsWf : List (Bool × List CK) → List SV → Prop
  | [], us => us = []
  | (a, ks) :: r, us => ∃ cs vs, us = topSV a cs :: vs ∧ wfKs ks cs ∧ argsWf r vs

def argsB (P : Program) (n : Nat) : List TypeId → List (Bool × List CK) → Bool
  | [], [] => true
  | t :: ts, (a, ks) :: r => (match kindsOf P n t with
    | some ks' => cksEq ks' ks
    | none => false) && (aggT P t == a) && P.readableRec t && decide (t < P.types.size) && argsB P n ts r
  | _, _ => false

mutual
theorem ckEq_ok : ∀ {a b : CK}, ckEq a b = true → a = b
  | .int k, b, h => by cases b <;> simp [ckEq] at h; rw [h]
  | .bool, b, h => by cases b <;> simp [ckEq] at h; rfl
  | .str, b, h => by cases b <;> simp [ckEq] at h; rfl
  | .flt, b, h => by cases b <;> simp [ckEq] at h; rfl
  | .cpx, b, h => by cases b <;> simp [ckEq] at h; rfl
  | .other, b, h => by cases b <;> simp [ckEq] at h; rfl
  | .sl ks, b, h => by
    cases b <;> simp [ckEq] at h
    rw [cksEq_ok' h]
theorem cksEq_ok' : ∀ {a b : List CK}, cksEq a b = true → a = b
  | [], b, h => by cases b <;> simp [cksEq] at h; rfl
  | k :: ks, b, h => by
    cases b <;> simp [cksEq] at h
    rw [ckEq_ok h.1, cksEq_ok' h.2]
end

theorem open_args {n : Nat} {b0 : Nat} : ∀ (ts : List TypeId) (tks : List (Bool × List CK)) (vs : List Value) (ds : List (DataW H)) (ps : List MemPlace), argsB P n ts tks = true →
    (∀ (j : Nat) t v, ts[j]? = some t → vs[j]? = some v → Value.okWide P w .any b0 t v) → DataW.TrodAll enc P w base spare held ts vs ds ps → (∀ m ∈ DataW.weightsEach P ts ds, m ≤ reachBytes) →
    ∃ us, argsWf tks us ∧ us.length = vs.length ∧ ds.length = ts.length ∧ ∀ i, Conc (fun b => b < w.heap.size) w (vs.getD i undef) (us.getD i .any)
  | [], tks, vs, ds, ps, hb, hv, h, _ => by
    cases tks with
    | cons => simp [argsB] at hb
    | nil =>
      obtain ⟨rfl, rfl, rfl⟩ := trodAll_nil h
      exact ⟨[], rfl, rfl, rfl, fun i => by simpa using Conc.any _⟩
  | t :: ts, tks, vs, ds, ps, hb, hv, h, hz => by
    cases tks with
    | nil => simp [argsB] at hb
    | cons tk tks =>
      obtain ⟨a, ks⟩ := tk
      simp only [argsB, Bool.and_eq_true] at hb
      obtain ⟨⟨⟨⟨h1, h2⟩, _⟩, _⟩, h5⟩ := hb
      obtain ⟨v, vs', d, ds', p, q, rfl, rfl, rfl, h3, h4⟩ := trodAll_cons h
      obtain ⟨us, q1, q2, q2b, q3⟩ := open_args ts tks vs' ds' q h5 (fun j t' v' hj hj' => hv (j + 1) t' v' (by simpa using hj) (by simpa using hj')) h4 (fun m hm => hz m (by simp only [DataW.weightsEach, List.mem_append]; exact .inr hm))
      split at h1
      · rename_i ks' hk
        have := cksEq_ok' h1
        subst this
        obtain ⟨cs, q4, q5⟩ := open_arg hk (hv 0 t v rfl rfl) h3 (fun m hm => hz m (by simp only [DataW.weightsEach, List.mem_append]; exact .inl hm))
        have h2 := eq_of_beq h2
        rw [h2] at q5
        refine ⟨topSV a cs :: us, ⟨cs, us, rfl, q4, q1⟩, by simp [q2], by simp [q2b], fun i => ?_⟩
        cases i with
        | zero => exact q5
        | succ i => simpa using q3 i
      · cases h1

theorem trodAll_below {n : Nat} {W W' : World} (hl : laidOutB P = true) (bel : Below W.heap.size W W') : ∀ (ts : List TypeId) (tks : List (Bool × List CK)) (vs : List Value) (ds : List (DataW H)) (ps : List MemPlace), argsB P n ts tks = true →
    DataW.TrodAll enc P W 0 (fun _ => true) true ts vs ds ps → (∀ x, x ∈ ps → x.block < W.heap.size) → DataW.TrodAll enc P W' 0 (fun b => decide (b < W.heap.size)) true ts vs ds ps
  | [], tks, vs, ds, ps, hb, h, hlt => by
    obtain ⟨rfl, rfl, rfl⟩ := trodAll_nil h
    exact trodAll_mk0
  | t :: ts, tks, vs, ds, ps, hb, h, hlt => by
    cases tks with
    | nil => simp [argsB] at hb
    | cons tk tks =>
      obtain ⟨a, ks⟩ := tk
      simp only [argsB, Bool.and_eq_true, decide_eq_true_eq] at hb
      obtain ⟨⟨⟨⟨_, _⟩, h3⟩, h4⟩, h5⟩ := hb
      obtain ⟨v, vs', d, ds', p, q, rfl, rfl, rfl, h6, h7⟩ := trodAll_cons h
      exact ⟨p, q, Below.trod hl h3 h4 h6 bel (fun x hx => hlt x (by simp [hx])), trodAll_below hl bel ts tks vs' ds' q h5 h7 (fun x hx => hlt x (by simp [hx])), rfl⟩
end

theorem below_of {W W' : World} (h : Fr W.heap.size (fun _ => False) W W') : Below W.heap.size W W' :=
  ⟨h.os, h.tape, h.output, h.size, fun k hk => h.block k hk (fun h => h)⟩

/-- A law's row: of all arguments that there may be, the function answers 'true'; so the statement's lifted form. -/
theorem law_lifted {H : Type} {enc : TypeId × Value → H} {a : Assume} {C : Checked} {os : Os} {f : FuncId} {fn : Func} {s : ChangeSpec} {conds : List PathCond} {tks : List (Bool × List CK)} [hL : Laid C.prog] (hld : ∀ w, hL.ok w) (n : Nat) (rt : TypeId)
    (own : ownKnob C.prog.godebug = none) (started : os.Started) (noInit : C.prog.inits.idxOf? f = none) (hfn : C.prog.funcs[f]? = some fn) (laid : laidOutB C.prog = true)
    (hks : argsB C.prog n fn.params.toList tks = true) (hres : fn.resultTypes = #[rt]) (hrt : C.prog.underlying rt = some .bool) (hvars : s.vars = [])
    (hspec : ∀ ds : List (DataW H), ds.length = fn.params.toList.length → (s.fn H ds).results = [.lit (.bool true)] ∧ (s.fn H ds).args = ds ∧ (s.fn H ds).vars = [])
    (witness : ∃ (w : World) (tape : Tape) (i : Input), w.os = os ∧ (w.forCall tape i).Shaped C.prog ∧ i.vars = [] ∧ Input.okWide C.prog (w.forCall tape i) .any w.heap.size f i ∧
      s.pre6 enc C.prog fn conds false (w.forCall tape i).memory i.args ∧ a.holds C.prog (lone (Frame.enter C.prog f i.args .normal) [] (w.forCall tape i)))
    (hok : ∀ us, argsWf tks us → FnOK C.prog f us (.bool true)) :
    ReturnsInHanded a C os f .any (s.pre6 enc C.prog fn conds false) (s.post enc C.prog fn false true false false) := by
  refine returnsInHanded_of_change_shaped own started noInit hfn witness ?_
  intro W base args ds gs before hval hW hcnd hsz _ _
  have hW' := hW
  obtain ⟨p, q, hA, hV, rfl, hfz, hnd⟩ := hW
  rw [hvars] at hV
  obtain ⟨rfl, rfl⟩ := trodVars_none hV
  have hlt : ∀ x ∈ p, x.block < W.heap.size := fun x hx => hW'.lt x (by simp [hx])
  have hvt : s.plain.varTypes C.prog = [] := by
    have : s.plain.vars = [] := hvars
    unfold DataSpec.varTypes
    rw [this]; rfl
  rw [hvt, List.append_nil, List.append_nil] at hsz
  obtain ⟨us, h1, h2, h2b, h3⟩ := open_args fn.params.toList tks args.toList ds p hks (fun j t v hj hj' => hval j t v (by simpa using hj) (by simpa using hj')) hA (fun m hm => by simpa using List.all_eq_true.1 hsz m hm)
  refine (hok us h1 (fun b => b < W.heap.size) W args (hld W) (fun b hb => hb) (by simpa using h2.symm) (fun i => ?_)).mono fun e W' ⟨x, I', he, hfr, _, _, hx⟩ => ?_
  · have := h3 i
    rw [Array.getD_eq_getD_getElem?]
    rw [List.getD_eq_getElem?_getD, Array.getElem?_toList] at this
    exact .inl this
  · subst he
    have hx : x = .bool true := by cases hx.conc rfl; rfl
    subst hx
    have bel := below_of hfr
    obtain ⟨e1, e2, e3⟩ := hspec (ds ++ []) (by simpa using h2b)
    simp only [List.append_nil] at hW' e1 e2 e3
    refine ⟨_, rfl, ds, [], p, [], p, [], hW', ?_, ?_, ?_, bel.frame _, fun h => by cases h⟩
    · rw [List.append_nil, e1, hres]
      exact trodAll_mk1 (shut_bool hrt true)
    · rw [List.append_nil, e2]
      exact trodAll_below laid bel _ _ _ _ _ hks hA hlt
    · rw [List.append_nil, e3, hvars]
      exact rfl
end Go.Rx

/- The framework, part 25: contracts by the arguments' form. -/
namespace Go.Rx
set_option linter.unusedSectionVars false
open Go.RowKit

/-- What is one abstract value is also the other. -/
def leV (u v : SV) : Prop := (∀ (I : Nat → Prop) (w : World) (x : Value), Conc I w x u → Conc I w x v) ∧ (∀ (I : Nat → Prop) (w : World) (x : Value), LpOK I w x u → ArgOK I w x v) ∧ ∀ (I : Nat → Prop) (w : World) (x : Value), MpC I w x u → Conc I w x v ∨ MpC I w x v
def leL (us vs : List SV) : Prop := us.length = vs.length ∧ ∀ i, leV (us.getD i .any) (vs.getD i .any)

theorem leV.of {u v : SV} (hu : ∀ t cs, u ≠ .lp t cs) (hw : ∀ e ks l, u ≠ .own e ks l) (h : ∀ (I : Nat → Prop) (w : World) (x : Value), Conc I w x u → Conc I w x v) : leV u v :=
  ⟨h, fun I w x ⟨t, cs, _, _, e, _⟩ => absurd e (hu t cs), fun I w x ⟨_, _, _, _, _, _, e, _⟩ => absurd e (hw _ _ _)⟩
theorem leV.refl (u : SV) : leV u u := ⟨fun _ _ _ h => h, fun _ _ _ h => .inr h, fun _ _ _ h => .inr h⟩
theorem leV.any (u : SV) : leV u .any := ⟨fun _ _ _ _ => .any _, fun _ _ _ _ => .inl (.any _), fun _ _ _ _ => .inl (.any _)⟩
theorem leL.nil : leL [] [] := ⟨rfl, fun _ => leV.refl _⟩
theorem leL.cons {u v : SV} {us vs : List SV} (h : leV u v) (h' : leL us vs) : leL (u :: us) (v :: vs) := by
  refine ⟨by simp [h'.1], fun i => ?_⟩
  cases i with
  | zero => exact h
  | succ i => simpa using h'.2 i
theorem leV.agg {us vs : List SV} (h : leL us vs) : leV (.agg us) (.agg vs) := by
  refine leV.of (fun _ _ h => by cases h) (fun _ _ _ h => by cases h) ?_
  intro I w x hx
  cases hx with
  | agg xs cs hs hc => exact .agg xs vs (by rw [hs, h.1]) (fun i => (h.2 i).1 I w _ (hc i))
theorem leV.lp {t : Nat} {us vs : List SV} (h : leL us vs) : leV (.lp t us) (.lp t vs) := by
  refine ⟨fun I w x hx => (by cases hx), fun I w x hx => ?_, fun I w x ⟨_, _, _, _, _, _, e, _⟩ => (by cases e)⟩
  obtain ⟨t', cs, b, ys, e, e1, e2, e3, e4, e5, e6⟩ := hx
  cases e
  exact .inr ⟨t, vs, b, ys, rfl, e1, e2, by rw [e3, h.1], fun i => (e4 i).elim (fun hc => .inl ((h.2 i).1 I w _ hc)) (fun hm => (h.2 i).2.2 I w _ hm), e5, e6⟩
theorem leV.bool {u : SV} {b : Bool} (h : bOf u = some b) : leV u (.bool b) := by
  refine leV.of (fun t cs e => by subst e; simp [bOf] at h) (fun a b c e => by subst e; simp [bOf] at h) ?_
  intro I w x hx
  cases u <;> simp [bOf] at h
  · subst h; exact hx
  · subst h; cases hx; exact .bool _
  · subst h; cases hx; exact .bool _

def slOf (ks : List CK) : SV → Option (List SV)
  | .sl ks' l => match cksEq ks' ks with
    | true => some l
    | false => none
  | .nilsl => some []
  | _ => none
theorem leV.sl {ks : List CK} {u : SV} {l : List SV} (h : slOf ks u = some l) : leV u (.sl ks l) := by
  refine leV.of (fun t cs e => by subst e; simp [slOf] at h) (fun a b c e => by subst e; simp [slOf] at h) ?_
  intro I w x hx
  cases u <;> simp only [slOf] at h <;> try cases h
  · split at h
    · rename_i he
      cases h
      rw [cksEq_ok' he] at hx
      exact hx
    · cases h
  · cases hx; exact .sl0 _ _ _

/-- A pointer to memory that nobody writes any more, or nil. -/
def epOf (ks : List CK) : SV → Option (Bool × List SV)
  | .oep b ks' l i o => match cksEq ks' ks, Nat.beq i 0, Nat.beq o 0 with
    | true, true, true => some (b, l)
    | _, _, _ => none
  | .ep ks' l i o => match cksEq ks' ks, Nat.beq i 0, Nat.beq o 0 with
    | true, true, true => some (true, l)
    | _, _, _ => none
  | _ => none
theorem leV.oep {ks : List CK} {u : SV} {b : Bool} {l : List SV} (h : epOf ks u = some (b, l)) : leV u (.oep b ks l 0 0) := by
  refine leV.of (fun t cs e => by subst e; simp [epOf] at h) (fun a b c e => by subst e; simp [epOf] at h) ?_
  intro I w x hx
  cases u <;> simp only [epOf] at h <;> try cases h
  · split at h
    · rename_i h1 h2 h3
      have := cksEq_ok' h1
      have := Nat.eq_of_beq_eq_true h2
      have := Nat.eq_of_beq_eq_true h3
      subst_vars
      cases h
      exact .oep _ _ _ _ _ _ (fun h => by cases h) (fun _ => hx)
    · cases h
  · split at h
    · rename_i h1 h2 h3
      have := cksEq_ok' h1
      have := Nat.eq_of_beq_eq_true h2
      have := Nat.eq_of_beq_eq_true h3
      subst_vars
      cases h
      exact hx
    · cases h

theorem FnOK.le {P : Program} [Laid P] {f : Nat} {us vs : List SV} {r : SV} (h : FnOK P f vs r) (hl : leL us vs) : FnOK P f us r := by
  intro I w xs hl0 hI hs hx
  exact h I w xs hl0 hI (by rw [hs, hl.1]) (fun i => (hx i).elim (fun hx => .inl ((hl.2 i).1 I w _ hx)) (fun hx => (hl.2 i).2.1 I w _ hx))

/-- A contract, by the arguments' form. -/
def conOf {α : Type} (sh : List SV → Option α) (pre : α → Option Prop) (res : α → SV) : Con :=
  ⟨fun us => match sh us with
    | some a => pre a
    | none => some False, fun us => match sh us with
    | some a => res a
    | none => .any⟩

theorem known1 {P : Program} [Laid P] {f : Nat} {α : Type} {sh : List SV → Option α} {em : α → List SV} {pre : α → Option Prop} {res : α → SV} {ty : List (Nat × TyL)} {fn : Func} {nt : Nat} {fs : List (Nat × Con)} {An : α → Nat → Option Ann} {labs : List Nat} {lit : Bool}
    (hsh : ∀ us a, sh us = some a → leL us (em a)) (hb : fnB P f = true) (hm : P.follows .mixedOrders = true) (ht : ∀ t L, lkO ty t = some L → TyOk P t L) (hk : Knows P fs) (hf : P.funcs[f]? = some fn) (hnt : Nat.beq fn.ntmps nt = true)
    (hn : ∀ a, Nat.ble (em a).length fn.ntmps = true) (hc : ∀ a, closed (res a) = true) (h : ∀ a, obH (pre a) → ∃ T : Prop, wpF ⟨nt, ty, fs, lit, 0, [], false⟩ (An a) labs fn (em a) (res a) = T ∧ T) : Known P f (conOf sh pre res) := by
  refine ⟨fnB_ok hb, fun us _ hp => ?_⟩
  simp only [conOf] at hp ⊢
  cases hs : sh us with
  | none => rw [hs] at hp; exact hp.elim
  | some a =>
    rw [hs] at hp
    obtain ⟨T, h1, h2⟩ := h a hp
    exact ⟨hc a, (fnOK (cxOk hm ht hk) hf hnt (hn a) (h1.symm ▸ h2)).le (hsh us a hs)⟩

theorem known1I {P : Program} [Laid P] {f : Nat} {α : Type} {sh : List SV → Option α} {em : α → List SV} {pre : α → Option Prop} {res : α → SV} {ty : List (Nat × TyL)} {fn : Func} {nt : Nat} {fs : List (Nat × Con)} {inl : List (Nat × Tr)} {An : α → Nat → Option Ann} {labs : List Nat} {lit pl : Bool}
    (hsh : ∀ us a, sh us = some a → leL us (em a)) (hb : fnB P f = true) (hm : P.follows .mixedOrders = true) (ht : ∀ t L, lkO ty t = some L → TyOk P t L) (hk : Knows P fs) (hi : InKs P inl) (hf : P.funcs[f]? = some fn) (hnt : Nat.beq fn.ntmps nt = true)
    (hn : ∀ a, Nat.ble (em a).length fn.ntmps = true) (hc : ∀ a, closed (res a) = true) (h : ∀ a, obH (pre a) → ∃ T : Prop, wpF ⟨nt, ty, fs, lit, 0, inl, pl⟩ (An a) labs fn (em a) (res a) = T ∧ T) : Known P f (conOf sh pre res) := by
  refine ⟨fnB_ok hb, fun us _ hp => ?_⟩
  simp only [conOf] at hp ⊢
  cases hs : sh us with
  | none => rw [hs] at hp; exact hp.elim
  | some a =>
    rw [hs] at hp
    obtain ⟨T, h1, h2⟩ := h a hp
    exact ⟨hc a, (fnOK (cxOkI hm ht hk hi) hf hnt (hn a) (h1.symm ▸ h2)).le (hsh us a hs)⟩

/-- What is known of a function, of arguments of the form. -/
theorem Known.at {P : Program} [Laid P] {f : Nat} {α : Type} {sh : List SV → Option α} {pre : α → Option Prop} {res : α → SV} (h : Known P f (conOf sh pre res)) {us : List SV} {a : α} (hs : sh us = some a) (hc : closedAL us = true) (hp : obH (pre a)) : FnOK P f us (res a) := by
  have := h.ok us hc
  simp only [conOf, hs] at this
  exact (this hp).2

/-- Two contracts of one function: which of them holds is told by the arguments. -/
def conOr (s : List SV → Bool) (c1 c2 : Con) : Con :=
  ⟨fun us => match s us with
    | true => c1.pre us
    | false => c2.pre us, fun us => match s us with
    | true => c1.res us
    | false => c2.res us⟩
theorem known_or {P : Program} [Laid P] {f : Nat} {s : List SV → Bool} {c1 c2 : Con} (h1 : Known P f c1) (h2 : Known P f c2) : Known P f (conOr s c1 c2) := by
  refine ⟨h1.b, fun us hc hp => ?_⟩
  simp only [conOr] at hp ⊢
  cases hs : s us with
  | true => rw [hs] at hp; exact h1.ok us hc hp
  | false => rw [hs] at hp; exact h2.ok us hc hp

/-- Whole numbers that a kind can hold. -/
def inK (k : IntKind) (n : Int) : Prop := k.min ≤ n ∧ n ≤ k.max
def in64 (n : Int) : Prop := -9223372036854775808 ≤ n ∧ n ≤ 9223372036854775807
theorem in64_of {n : Int} (h : IntKind.i64.min ≤ n ∧ n ≤ IntKind.i64.max) : in64 n := by
  have h1 : IntKind.i64.min = -9223372036854775808 := by decide
  have h2 : IntKind.i64.max = 9223372036854775807 := by decide
  rw [h1, h2] at h
  exact h
/-- Rows that may be arguments. -/
def wfL (ks : List CK) (l : List SV) : Prop := ∃ L : List (List SV), l = L.map elOf ∧ L.length ≤ maxLen ∧ ∀ us, us ∈ L → wfKs ks us
theorem wfL_of {ks : List CK} {v : SV} (h : wfK (.sl ks) v) : ∃ l, v = .sl ks l ∧ wfL ks l := by
  rw [wfK] at h
  obtain ⟨l, rfl, h1, h2⟩ := h
  exact ⟨_, rfl, l, rfl, h1, h2⟩
theorem wfK_int {v : SV} (h : wfK (.int .i64) v) : ∃ n, v = .int .i64 n ∧ in64 n := by
  rw [wfK] at h
  obtain ⟨n, rfl, h⟩ := h
  exact ⟨n, rfl, in64_of h⟩
theorem wfK_intk {k : IntKind} {v : SV} (h : wfK (.int k) v) : ∃ n, v = .int k n ∧ inK k n := by
  rw [wfK] at h
  obtain ⟨n, rfl, h⟩ := h
  exact ⟨n, rfl, h⟩
theorem wfK_bool {v : SV} (h : wfK .bool v) : ∃ b, v = .bool b := by rw [wfK] at h; exact h
theorem wfK_str {v : SV} (h : wfK .str v) : ∃ s, v = .str s ∧ s.length ≤ maxStr := by rw [wfK] at h; exact h
theorem wfKs_nil {us : List SV} (h : wfKs [] us) : us = [] := by rw [wfKs] at h; exact h
theorem wfKs_cons {k : CK} {ks : List CK} {us : List SV} (h : wfKs (k :: ks) us) : ∃ v vs, us = v :: vs ∧ wfK k v ∧ wfKs ks vs := by rw [wfKs] at h; exact h

theorem getD_map {α β : Type} (f : α → β) (l : List α) (i : Nat) (d : α) (d' : β) (h : i < l.length) : (l.map f).getD i d' = f (l.getD i d) := by
  simp [List.getD_eq_getElem?_getD, h]

/-- Rows of whole numbers. -/
def ints (l : List SV) : List Int := l.map fun e => (elCell [e] 0 0).toInt
theorem ints_map (k : IntKind) (l : List Int) : ints (l.map (SV.int k)) = l := by
  unfold ints
  rw [List.map_map]
  conv => rhs; rw [← List.map_id l]
  rfl
theorem ints_length (l : List SV) : (ints l).length = l.length := by simp [ints]
theorem elCell_one (l : List SV) (i j : Nat) : elCell [l.getD i .any] 0 j = elCell l i j := rfl
theorem ints_get (l : List SV) (i : Nat) (h : i < l.length) : (elCell l i 0).toInt = (ints l).getD i 0 := by
  unfold ints
  rw [getD_map (fun e => (elCell [e] 0 0).toInt) l i .any 0 h]
  rfl
theorem wfL_ints {l : List SV} (h : wfL [.int .i64] l) : l = (ints l).map (SV.int .i64) ∧ (ints l).length ≤ maxLen ∧ ∀ n, n ∈ ints l → in64 n := by
  obtain ⟨L, rfl, h1, h2⟩ := h
  have each : ∀ us, us ∈ L → ∃ n, us = [.int .i64 n] ∧ in64 n := by
    intro us hus
    obtain ⟨v, vs, rfl, h3, h4⟩ := wfKs_cons (h2 us hus)
    obtain ⟨n, rfl, hn⟩ := wfK_int h3
    rw [wfKs_nil h4]
    exact ⟨n, rfl, hn⟩
  have e : L.map elOf = (ints (L.map elOf)).map (SV.int .i64) := by
    unfold ints
    rw [List.map_map, List.map_map]
    refine List.map_congr_left (fun us hus => ?_)
    obtain ⟨n, rfl, _⟩ := each us hus
    rfl
  refine ⟨e, by simpa [ints] using h1, fun n hn => ?_⟩
  unfold ints at hn
  rw [List.map_map] at hn
  obtain ⟨us, hus, rfl⟩ := List.mem_map.1 hn
  obtain ⟨m, rfl, hm⟩ := each us hus
  exact hm

theorem wrapI {n : Int} (h : -9223372036854775808 ≤ n ∧ n ≤ 9223372036854775807) : IntKind.i64.wrap n = n := IntWalk.i64_in n h
def noAnn : Nat → Option Ann := fun _ => none
/-- Loops gone through at most so often: block ↦ (times, slots kept, memory kept). -/
def unrAn (l : List (Nat × (Nat × List Nat × List Nat))) : Nat → Option Ann := fun n => match lkO l n with
  | some (k, kt, km) => some (unroll k kt km)
  | none => none
/-- Where all is plain: every loop is gone through as often as it is. -/
def plAn : Nat → Option Ann := fun k => match Nat.ble 3000 k, Nat.blt k 4000 with
  | true, true => some (unroll 2000 [] [])
  | _, _ => none
end Go.Rx

