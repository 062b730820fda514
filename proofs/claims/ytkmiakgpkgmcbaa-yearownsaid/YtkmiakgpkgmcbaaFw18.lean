/- The framework, part 18: regions in whatever order the tape tells. -/
import Derived.Test.YtkmiakgpkgmcbaaFw17
namespace Go.Rx
set_option linter.unusedSectionVars false
open Go.RowKit

section
variable {cx : Cx} {P : Program} [Laid P] {B : Nat} {M I0 : Nat → Prop} {G : Nat → Value} {w0 : World} {E : Env} {s : St} {a : Act} {w : World} {o : Oper} {K : Act → World → Prop} {Q : Exit → Act → World → Prop}

theorem lkO_endF : ∀ (es : List Eff) (i : Nat) (fs : List (Nat × Eff)) (k : Nat), lkO (endF i es fs) k = if i ≤ k ∧ k < i + es.length then es[k - i]? else lkO fs k
  | [], i, fs, k => by simp only [endF, List.length_nil]; rw [if_neg (by omega)]
  | e :: es, i, fs, k => by
    rw [endF, lkO_endF es (i + 1), lkO_cons]
    by_cases h1 : i = k
    · subst h1
      rw [if_neg (by omega), if_pos rfl, if_pos (by simp)]
      simp
    · by_cases h2 : i + 1 ≤ k ∧ k < i + 1 + es.length
      · rw [if_pos h2, if_pos (by simp; omega)]
        have : k - i = (k - (i + 1)) + 1 := by omega
        rw [this, List.getElem?_cons_succ]
      · rw [if_neg h2, if_neg h1, if_neg (by simp; omega)]

theorem path_length (all : List Oper) : ∀ (l : List Oper) (s : St) (es : List Eff), Path cx all l s es → es.length = l.length
  | [], s, es, h => by simp only [Path] at h; simp [h]
  | o :: r, s, es, h => by
    obtain ⟨e, es', rfl, _, _, h'⟩ := h
    simp [path_length all r _ es' h']

/-- The operations of a set, carried out in the order of the text. -/
def selS (D : Nat → Bool) : List Oper → List Eff → Nat → St → St
  | o :: r, e :: es, i, s => selS D r es (i + 1) (match D i with
    | true => upd s o.dst e.v e.ch
    | false => s)
  | _, _, _, s => s

theorem sel_tm {D D' : Nat → Bool} {t : Nat} : ∀ (l : List Oper) (es : List Eff) (i : Nat) (s s' : St), lk .any s.tm t = lk .any s'.tm t → (∀ j o, l[j]? = some o → o.dst = some t → D (i + j) = D' (i + j)) →
    lk .any (selS D l es i s).tm t = lk .any (selS D' l es i s').tm t
  | [], es, i, s, s', h, _ => by cases es <;> exact h
  | _ :: _, [], i, s, s', h, _ => h
  | o :: r, e :: es, i, s, s', h, hd => by
    simp only [selS]
    refine sel_tm r es (i + 1) _ _ ?_ (fun j o' hj ho => by have := hd (j + 1) o' (by simpa using hj) ho; rwa [show i + 1 + j = i + (j + 1) by omega])
    by_cases ht : o.dst = some t
    · have := hd 0 o rfl ht
      rw [Nat.add_zero] at this
      rw [this]
      cases D' i with
      | true => simp only [upd, ht]; rw [lk_cons, lk_cons, if_pos rfl, if_pos rfl]
      | false => exact h
    · have key : ∀ (s : St), lk .any (upd s o.dst e.v e.ch).tm t = lk .any s.tm t := fun s => by
        simp only [upd]
        cases hq : o.dst with
        | none => rfl
        | some d => rw [lk_cons, if_neg (fun e => ht (by rw [hq, e]))]
      cases D i <;> cases D' i <;> simp only [key, h]

theorem sel_mem {D D' : Nat → Bool} {c : Nat} : ∀ (l : List Oper) (es : List Eff) (i : Nat) (s s' : St), lkO s.mem c = lkO s'.mem c → (∀ j e, es[j]? = some e → lkO e.ch c ≠ none → D (i + j) = D' (i + j)) →
    lkO (selS D l es i s).mem c = lkO (selS D' l es i s').mem c
  | [], es, i, s, s', h, _ => by cases es <;> exact h
  | _ :: _, [], i, s, s', h, _ => h
  | o :: r, e :: es, i, s, s', h, hd => by
    simp only [selS]
    refine sel_mem r es (i + 1) _ _ ?_ (fun j e' hj ho => by have := hd (j + 1) e' (by simpa using hj) ho; rwa [show i + 1 + j = i + (j + 1) by omega])
    by_cases ht : lkO e.ch c = none
    · have key : ∀ (s : St), lkO (upd s o.dst e.v e.ch).mem c = lkO s.mem c := fun s => by
        simp only [upd]; rw [lkO_append, ht]
      cases D i <;> cases D' i <;> simp only [key, h]
    · have := hd 0 e rfl ht
      rw [Nat.add_zero] at this
      rw [this]
      cases D' i with
      | true => simp only [upd]; rw [lkO_append, lkO_append, h]
      | false => exact h

/-- What is written last stands. -/
theorem sel_tm_last {D : Nat → Bool} {t : Nat} : ∀ (l : List Oper) (es : List Eff) (i : Nat) (s : St) (k : Nat) (o : Oper) (e : Eff), l[k]? = some o → es[k]? = some e → o.dst = some t → D (i + k) = true → (∀ j o', k < j → l[j]? = some o' → o'.dst = some t → D (i + j) = false) →
    lk .any (selS D l es i s).tm t = e.v
  | [], _, _, _, k, o, e, h, _, _, _, _ => by simp at h
  | _ :: _, [], _, _, k, o, e, _, h, _, _, _ => by simp at h
  | o0 :: r, e0 :: es, i, s, 0, o, e, h1, h2, h3, h4, h5 => by
    simp only [List.getElem?_cons_zero, Option.some.injEq] at h1 h2
    subst h1 h2
    simp only [selS]
    rw [Nat.add_zero] at h4
    rw [h4]
    rw [sel_tm (D' := fun _ => false) r es (i + 1) _ (upd s o0.dst e0.v e0.ch) rfl (fun j o' hj ho => by have := h5 (j + 1) o' (by omega) (by simpa using hj) ho; rwa [show i + 1 + j = i + (j + 1) by omega])]
    have key : ∀ (l : List Oper) (es : List Eff) (i : Nat) (s : St), selS (fun _ => false) l es i s = s := by
      intro l
      induction l with
      | nil => intro es i s; cases es <;> rfl
      | cons o r ih => intro es i s; cases es with
        | nil => rfl
        | cons e es => simp only [selS]; exact ih es (i + 1) s
    rw [key]
    simp only [upd, h3]
    rw [lk_cons, if_pos rfl]
  | o0 :: r, e0 :: es, i, s, k + 1, o, e, h1, h2, h3, h4, h5 => by
    simp only [selS]
    exact sel_tm_last r es (i + 1) _ k o e (by simpa using h1) (by simpa using h2) h3 (by rwa [show i + 1 + k = i + (k + 1) by omega]) (fun j o' hj hq ho => by
      have := h5 (j + 1) o' (by omega) (by simpa using hq) ho; rwa [show i + 1 + j = i + (j + 1) by omega])

theorem sel_mem_last {D : Nat → Bool} {c : Nat} {v : Chunk} : ∀ (l : List Oper) (es : List Eff) (i : Nat) (s : St) (k : Nat) (e : Eff), k < l.length → es[k]? = some e → lkO e.ch c = some v → D (i + k) = true → (∀ j e', k < j → es[j]? = some e' → lkO e'.ch c ≠ none → D (i + j) = false) →
    lkO (selS D l es i s).mem c = some v
  | [], _, _, _, k, e, h, _, _, _, _ => by simp at h
  | _ :: _, [], _, _, k, e, _, h, _, _, _ => by simp at h
  | o0 :: r, e0 :: es, i, s, 0, e, _, h2, h3, h4, h5 => by
    simp only [List.getElem?_cons_zero, Option.some.injEq] at h2
    subst h2
    simp only [selS]
    rw [Nat.add_zero] at h4
    rw [h4]
    rw [sel_mem (D' := fun _ => false) r es (i + 1) _ (upd s o0.dst e0.v e0.ch) rfl (fun j e' hj ho => by have := h5 (j + 1) e' (by omega) (by simpa using hj) ho; rwa [show i + 1 + j = i + (j + 1) by omega])]
    have key : ∀ (l : List Oper) (es : List Eff) (i : Nat) (s : St), selS (fun _ => false) l es i s = s := by
      intro l
      induction l with
      | nil => intro es i s; cases es <;> rfl
      | cons o r ih => intro es i s; cases es with
        | nil => rfl
        | cons e es => simp only [selS]; exact ih es (i + 1) s
    rw [key]
    simp only [upd]
    rw [lkO_append, h3]
  | o0 :: r, e0 :: es, i, s, k + 1, e, h1, h2, h3, h4, h5 => by
    simp only [selS]
    exact sel_mem_last r es (i + 1) _ k e (by simpa using h1) (by simpa using h2) h3 (by rwa [show i + 1 + k = i + (k + 1) by omega]) (fun j e' hj hq ho => by
      have := h5 (j + 1) e' (by omega) (by simpa using hq) ho; rwa [show i + 1 + j = i + (j + 1) by omega])

/-- Every operation of a way, at its state. -/
theorem path_get (all : List Oper) : ∀ (l : List Oper) (s : St) (es : List Eff) (i : Nat), Path cx all l s es → ∀ k o e, l[k]? = some o → es[k]? = some e → dOk cx o.dst = true ∧ Step cx all (selS (fun j => decide (j < i + k)) l es i s) o e
  | [], s, es, i, _, k, o, e, h, _ => by simp at h
  | o0 :: r, s, es, i, h, 0, o, e, h1, h2 => by
    obtain ⟨e0, es', rfl, hd, hs, _⟩ := h
    simp only [List.getElem?_cons_zero, Option.some.injEq] at h1 h2
    subst h1 h2
    refine ⟨hd, ?_⟩
    have key : ∀ (l : List Oper) (es : List Eff) (i n : Nat) (s : St), n ≤ i → selS (fun j => decide (j < n)) l es i s = s := by
      intro l
      induction l with
      | nil => intro es i n s _; cases es <;> rfl
      | cons o r ih => intro es i n s hn; cases es with
        | nil => rfl
        | cons e es =>
          simp only [selS]
          rw [decide_eq_false (by omega)]
          exact ih es (i + 1) n s (by omega)
    rw [show i + 0 = i from rfl, key _ _ _ i _ (Nat.le_refl _)]
    exact hs
  | o0 :: r, s, es, i, h, k + 1, o, e, h1, h2 => by
    obtain ⟨e0, es', rfl, hd, hs, h'⟩ := h
    have := path_get all r _ es' (i + 1) h' k o e (by simpa using h1) (by simpa using h2)
    refine ⟨this.1, ?_⟩
    simp only [selS]
    rw [decide_eq_true (show i < i + (k + 1) by omega)]
    rw [show i + (k + 1) = i + 1 + k by omega]
    exact this.2

theorem sel_all : ∀ (l : List Oper) (es : List Eff) (i : Nat) (s : St), selS (fun _ => true) l es i s = endS l es s
  | [], es, i, s => by cases es <;> rfl
  | _ :: _, [], i, s => rfl
  | o :: r, e :: es, i, s => by simp only [selS, endS]; exact sel_all r es (i + 1) _

/-! ### Which operations wait for which -/
def Closed (ops : List Oper) (D : Nat → Bool) : Prop := ∀ i o, ops[i]? = some o → D i = true → ∀ e, e ∈ o.after.toList → Region.binds .any e = true → D e.on = true

def Ready (o : Oper) (D : Nat → Bool) : Prop := ∀ e, e ∈ o.after.toList → Region.binds .any e = true → D e.on = true

theorem befFold_bit (acc : List Nat) : ∀ (l : List Edge) (s i : Nat), (l.foldl (befStep acc) s).testBit i = true → s.testBit i = true ∨ ∃ e, e ∈ l ∧ Region.binds .any e = true ∧ (e.on = i ∨ (acc.getD e.on 0).testBit i = true)
  | [], s, i, h => .inl h
  | e :: l, s, i, h => by
    simp only [List.foldl_cons] at h
    rcases befFold_bit acc l _ i h with h1 | ⟨e', h1, h2⟩
    · unfold befStep at h1
      cases hb : Region.binds .any e with
      | false => rw [hb] at h1; exact .inl h1
      | true =>
        rw [hb] at h1
        simp only [Nat.testBit_or, Nat.testBit_two_pow, Bool.or_eq_true, decide_eq_true_eq] at h1
        rcases h1 with (h1 | h1) | h1
        · exact .inl h1
        · exact .inr ⟨e, List.mem_cons_self .., hb, .inl h1⟩
        · exact .inr ⟨e, List.mem_cons_self .., hb, .inr h1⟩
    · exact .inr ⟨e', List.mem_cons_of_mem _ h1, h2⟩

theorem befN_bit {ops : List Oper} {D : Nat → Bool} (hD : Closed ops D) (hedge : ∀ i o, ops[i]? = some o → edgesOk o i = true) : ∀ (l : List Oper) (k : Nat) (acc : List Nat), (∀ j, l[j]? = ops[k + j]?) → acc.length = k →
    (∀ j o, j < k → ops[j]? = some o → Ready o D → ∀ i, (acc.reverse.getD j 0).testBit i = true → D i = true) →
    ∀ j o, ops[j]? = some o → Ready o D → ∀ i, ((befN l acc).getD j 0).testBit i = true → D i = true
  | [], k, acc, hl, hk, hacc, j, o, ho, hr, i, hi => by
    simp only [befN] at hi
    have : j < k := by
      rcases Nat.lt_or_ge j k with h | h
      · exact h
      · have := hl (j - k)
        rw [show k + (j - k) = j by omega, ho] at this
        simp at this
    exact hacc j o this ho hr i hi
  | o0 :: r, k, acc, hl, hk, hacc, j, o, ho, hr, i, hi => by
    simp only [befN] at hi
    have hk0 : ops[k]? = some o0 := by simpa using (hl 0).symm
    refine befN_bit hD hedge r (k + 1) _ (fun j => by have := hl (j + 1); simpa [Nat.add_assoc, Nat.add_comm 1 j] using this) (by simp [hk]) (fun j' o' hj' ho' hr' i' hi' => ?_) j o ho hr i hi
    rw [List.reverse_cons] at hi'
    by_cases hjk : j' < k
    · have e1 : ∀ x, (acc.reverse ++ [x]).getD j' 0 = acc.reverse.getD j' 0 := fun x => by
        simp only [List.getD_eq_getElem?_getD]; rw [List.getElem?_append_left (by simp; omega)]
      rw [e1] at hi'
      exact hacc j' o' hjk ho' hr' i' hi'
    · have hjk : j' = k := by omega
      subst hjk
      rw [hk0] at ho'
      cases ho'
      have e1 : ∀ (x : Nat), (acc.reverse ++ [x]).getD j' 0 = x := fun x => by
        simp only [List.getD_eq_getElem?_getD]; rw [List.getElem?_append_right (by simp; omega)]; simp [hk]
      rw [e1] at hi'
      rcases befFold_bit acc.reverse _ _ _ hi' with h1 | ⟨e, h1, h2, h3⟩
      · simp at h1
      · have hon := hr' e h1 h2
        rcases h3 with rfl | h3
        · exact hon
        · have hlt : e.on < j' := by
            have := hedge j' o0 hk0
            unfold edgesOk at this
            rw [List.all_eq_true] at this
            have := this e h1
            rw [h2] at this
            simpa [Nat.blt_eq] using this
          have hex : ∃ oe, ops[e.on]? = some oe := by
            have : j' < ops.length := (List.getElem?_eq_some_iff.1 hk0).1
            exact ⟨_, List.getElem?_eq_getElem (by omega)⟩
          obtain ⟨oe, hoe⟩ := hex
          exact hacc e.on oe hlt hoe (hD e.on oe hoe hon) i' h3

theorem disj_not {a b : List Nat} (h : disj a b = true) {x : Nat} (ha : x ∈ a) (hb : x ∈ b) : False := by
  unfold disj at h
  rw [List.all_eq_true] at h
  have h := h x ha
  rw [List.all_eq_true] at h
  have h := h x hb
  rw [beqN] at h
  simp at h

theorem indep_get {ops : List Oper} {es : List Eff} (hl : es.length = ops.length) (h : indep ops (endF 0 es []) = true) :
    (∀ i o, ops[i]? = some o → edgesOk o i = true) ∧ ∀ i j oi oj ei ej, i < j → ops[i]? = some oi → ops[j]? = some oj → es[i]? = some ei → es[j]? = some ej → ((befN ops []).getD j 0).testBit i = true ∨ apartE ops oi oj ei ej = true := by
  unfold indep at h
  rw [List.all_eq_true] at h
  have hmem : ∀ i o, ops[i]? = some o → (o, i) ∈ ops.zipIdx := fun i o ho => by
    rw [List.mem_iff_getElem?]
    exact ⟨i, by simp [List.getElem?_zipIdx, ho]⟩
  refine ⟨fun i o ho => ?_, fun i j oi oj ei ej hij hoi hoj hei hej => ?_⟩
  · have := h _ (hmem i o ho)
    simp only [Bool.and_eq_true] at this
    exact this.1.2
  · have := h _ (hmem j oj hoj)
    simp only [Bool.and_eq_true] at this
    have h2 := this.2
    rw [List.all_eq_true] at h2
    have h3 := h2 (oi, i) (by
      rw [List.mem_iff_getElem?]
      exact ⟨i, by simp [List.getElem?_zipIdx, hij, hoi]⟩)
    simp only [Bool.or_eq_true] at h3
    rcases h3 with h3 | h3
    · exact .inl h3
    · have q : ∀ k e, es[k]? = some e → lkO (endF 0 es []) k = some e := fun k e hk => by
        rw [lkO_endF, if_pos ⟨Nat.zero_le _, by have := (List.getElem?_eq_some_iff.1 hk).1; omega⟩]
        simpa using hk
      rw [q i ei hei, q j ej hej] at h3
      exact .inr h3

theorem keys_of {ch : List (Nat × Chunk)} {c : Nat} (h : lkO ch c ≠ none) : c ∈ ch.map (·.1) := by
  induction ch with
  | nil => exact (h rfl).elim
  | cons x r ih =>
    obtain ⟨k, v⟩ := x
    rw [lkO_cons] at h
    by_cases e : k = c
    · simp [e]
    · rw [if_neg e] at h
      simp only [List.map_cons, List.mem_cons]
      exact .inr (ih h)

/-- An operation at another state that is the same where it looks. -/
theorem Step.move {all : List Oper} {s s' : St} {o : Oper} {e : Eff} (h : Step cx all s o e) (ht : ∀ t, t ∈ looks all o → lk .any s'.tm t = lk .any s.tm t) (hm : ∀ c, c ∈ e.rd → lkO s'.mem c = lkO s.mem c) : Step cx all s' o e := by
  have hw : wantB all s'.tm o = wantB all s.tm o := by
    unfold wantB
    cases hg : o.guard with
    | none => rfl
    | some g =>
      obtain ⟨j, b⟩ := g
      dsimp only
      cases hj : all[j]? with
      | none => rfl
      | some oj =>
        dsimp only
        cases hd : oj.dst with
        | none => rfl
        | some d =>
          dsimp only
          rw [ht d (by unfold looks; rw [hg]; simp [hj, hd])]
  rcases h with ⟨h1, h2, h3, h4, h5⟩ | ⟨h1, h2⟩
  · have hop : ∀ x, x ∈ o.op.operands → ev s'.tm x = ev s.tm x := fun x hx => by
      cases x with
      | tmp t =>
        show lk .any s'.tm t = lk .any s.tm t
        refine ht t ?_
        unfold looks
        refine List.mem_append.2 (.inl ?_)
        rw [List.mem_filterMap]
        exact ⟨.tmp t, by simpa using hx, rfl⟩
      | const v => rfl
      | global g => rfl
      | func f => rfl
    have e1 : opx cx s'.mem (ev s'.tm) o = opx cx s.mem (ev s.tm) o := by
      unfold opx
      rw [opE_congr hop]
      refine opE_same h2 (fun c hc => hm c ?_)
      rw [h4]; exact hc
    exact .inl ⟨by rw [hw]; exact h1, by rw [e1]; exact h2, by rw [e1]; exact ⟨h3, h4, h5⟩⟩
  · exact .inr ⟨by rw [hw]; exact h1, h2⟩

/-- How many are to come. -/
def toCome (n : Nat) (listed : Array Bool) : Nat := ((List.range n).filter fun i => !listed.getD i true).length

theorem toCome_set {n i : Nat} {listed : Array Bool} (hn : listed.size = n) (hi : listed.getD i true = false) : toCome n listed = toCome n (listed.setIfInBounds i true) + 1 := by
  have hin : i < n := by
    rcases Nat.lt_or_ge i n with h | h
    · exact h
    · rw [Array.getD_eq_getD_getElem?, Array.getElem?_eq_none (by omega)] at hi; cases hi
  unfold toCome
  have key : ∀ (l : List Nat), l.Nodup → i ∈ l → (∀ k, k ∈ l → k < n) → (l.filter fun i => !listed.getD i true).length = (l.filter fun k => !(listed.setIfInBounds i true).getD k true).length + 1 := by
    intro l
    induction l with
    | nil => intro _ h; cases h
    | cons x r ih =>
      intro hnd hmem hlt
      simp only [List.nodup_cons] at hnd
      by_cases hx : x = i
      · subst hx
        have h1 : (listed.setIfInBounds x true).getD x true = true := by simp [Array.getD_eq_getD_getElem?, hn, hin]
        have h2 : (r.filter fun k => !(listed.setIfInBounds x true).getD k true) = r.filter fun k => !listed.getD k true := by
          apply List.filter_congr
          intro k hk
          have : ¬ x = k := fun e => hnd.1 (e ▸ hk)
          simp [Array.getD_eq_getD_getElem?, this]
        rw [List.filter_cons, if_pos (by rw [hi]; rfl), List.filter_cons, if_neg (by rw [h1]; simp), h2]
        rfl
      · have h1 : (listed.setIfInBounds i true).getD x true = listed.getD x true := by simp [Array.getD_eq_getD_getElem?, Ne.symm hx]
        have ih' := ih hnd.2 ((List.mem_cons.1 hmem).resolve_left (fun e => hx e.symm)) (fun k hk => hlt k (List.mem_cons_of_mem _ hk))
        rw [List.filter_cons, List.filter_cons, h1]
        split
        · simp only [List.length_cons]; omega
        · exact ih'
  exact key _ List.nodup_range (List.mem_range.2 hin) (fun k hk => List.mem_range.1 hk)

theorem toCome_zero {n : Nat} {listed : Array Bool} (hn : listed.size = n) (h : toCome n listed = 0) : ∀ i, i < n → listed.getD i false = true := by
  intro i hi
  have : ¬ i ∈ (List.range n).filter fun i => !listed.getD i true := by
    unfold toCome at h
    rw [List.length_eq_zero_iff] at h
    rw [h]
    simp
  simp only [List.mem_filter, List.mem_range, hi, true_and, Bool.not_eq_true', Bool.not_eq_false] at this
  rw [Array.getD_eq_getD_getElem?, Array.getElem?_eq_getElem (by omega)] at this ⊢
  simpa using this
end
end Go.Rx

