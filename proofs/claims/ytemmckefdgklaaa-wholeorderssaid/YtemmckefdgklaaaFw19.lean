/- The framework, part 19: a region that draws its order: one walk in the order of the text serves for all. -/
import Derived.Test.YtemmckefdgklaaaFw18
namespace Go.Rx
set_option linter.unusedSectionVars false
open Go.RowKit

section
variable {cx : Cx} {P : Program} [Laid P] {B : Nat} {M I0 : Nat → Prop} {G : Nat → Value} {w0 : World} {E : Env} {s : St} {a : Act} {w : World} {o : Oper} {K : Act → World → Prop} {Q : Exit → Act → World → Prop}

theorem any_run (hP : CxOk P cx) {ops : Array Oper} {es : List Eff} {s0 : St} {R : St → Prop} (hp : Path cx ops.toList ops.toList s0 es) (hind : indep ops.toList (endF 0 es []) = true)
    (hR : ∀ E s a w, Rel P cx.nt B M I0 G w0 E s a w → R s → Q .normal a w) (hr : R (endS ops.toList es s0)) :
    ∀ (fuel : Nat) (listed : Array Bool) (E : Env) (a : Act) (w : World), listed.size = ops.size → toCome ops.size listed = fuel → Closed ops.toList (fun i => listed.getD i false) →
      Rel P cx.nt B M I0 G w0 E (selS (fun i => listed.getD i false) ops.toList es 0 s0) a w → wpAny P .any ops Q fuel listed a w := by
  have hlen := path_length ops.toList ops.toList s0 es hp
  obtain ⟨hedge, hpair⟩ := indep_get hlen hind
  intro fuel
  -- the end
  have fin : ∀ (listed : Array Bool) (E : Env) (a : Act) (w : World), (∀ i, i < ops.size → listed.getD i false = true) → Rel P cx.nt B M I0 G w0 E (selS (fun i => listed.getD i false) ops.toList es 0 s0) a w → Q .normal a w := by
    intro listed E a w hall h
    refine hR E _ a w (h.congr (s' := endS ops.toList es s0) (fun t => ?_) (fun c => ?_)) hr
    · rw [← sel_all ops.toList es 0 s0]
      refine (sel_tm _ _ _ _ _ rfl (fun j o' hj _ => ?_))
      rw [Nat.zero_add, hall j (by have := (List.getElem?_eq_some_iff.1 hj).1; simpa using this)]
    · rw [← sel_all ops.toList es 0 s0]
      refine (sel_mem _ _ _ _ _ rfl (fun j e' hj _ => ?_))
      rw [Nat.zero_add, hall j (by have := (List.getElem?_eq_some_iff.1 hj).1; rw [hlen] at this; simpa using this)]
  -- none is ready: all are done
  have last : ∀ (listed : Array Bool), listed.size = ops.size → Region.ready .any ops listed = [] → ∀ i, i < ops.size → listed.getD i false = true := by
    intro listed hsz hnone i
    induction i using Nat.strongRecOn with
    | _ i ih =>
      intro hi
      cases hl : listed.getD i false with
      | true => rfl
      | false =>
        exfalso
        have : i ∈ Region.ready .any ops listed := by
          rw [mem_ready]
          have hoi : ops[i]? = some ops[i] := Array.getElem?_eq_getElem hi
          refine ⟨?_, ops[i], hoi, fun e he hb => ?_⟩
          · rw [Array.getD_eq_getD_getElem?, Array.getElem?_eq_getElem (by omega)] at hl ⊢
            simpa using hl
          · have hed := hedge i ops[i] (by simp)
            unfold edgesOk at hed
            rw [List.all_eq_true] at hed
            have := hed e (by simpa using he)
            rw [hb] at this
            have hlt : e.on < i := by simpa [Nat.blt_eq] using this
            exact ih e.on hlt (by omega)
        rw [hnone] at this
        cases this
  induction fuel with
  | zero =>
    intro listed E a w hsz hc hcl h
    have hall := toCome_zero hsz hc
    refine ⟨?_, fin listed E a w hall h⟩
    cases hrd : Region.ready .any ops listed with
    | nil => rfl
    | cons x r =>
      have hx : x ∈ Region.ready .any ops listed := by rw [hrd]; exact List.mem_cons_self ..
      obtain ⟨h1, ox, hox, _⟩ := mem_ready.1 hx
      have hlt : x < ops.size := (Array.getElem?_eq_some_iff.1 hox).1
      have := hall x hlt
      rw [Array.getD_eq_getD_getElem?, Array.getElem?_eq_getElem (by omega)] at this h1
      simp at this h1
      rw [this] at h1
      cases h1
  | succ fuel ih =>
    intro listed E a w hsz hc hcl h
    refine ⟨fun hnone => fin listed E a w (last listed hsz hnone) h, fun j hj => ?_⟩
    obtain ⟨hju, oj, hoj, hdep⟩ := mem_ready.1 hj
    have hjlt : j < ops.size := (Array.getElem?_eq_some_iff.1 hoj).1
    have hoj' : ops.toList[j]? = some oj := by simpa using hoj
    have hjf : listed.getD j false = false := by
      rw [Array.getD_eq_getD_getElem?, Array.getElem?_eq_getElem (by omega)] at hju ⊢
      simpa using hju
    have hej : ∃ ej, es[j]? = some ej := ⟨_, List.getElem?_eq_getElem (by rw [hlen]; simpa using hjlt)⟩
    obtain ⟨ej, hej⟩ := hej
    have hready : Ready oj (fun i => listed.getD i false) := fun e he hb => hdep e (by simpa using he) hb
    have hbef := fun i hi => befN_bit hcl hedge ops.toList 0 [] (by simp) rfl (fun j o h => by omega) j oj hoj' hready i hi
    -- what is done and what is behind
    have F3 : ∀ i oi ei, i < j → ops.toList[i]? = some oi → es[i]? = some ei → listed.getD i false = false → apartE ops.toList oi oj ei ej = true := by
      intro i oi ei hij hoi hei hli
      rcases hpair i j oi oj ei ej hij hoi hoj' hei hej with h1 | h1
      · have := hbef i h1
        simp only [hli] at this
        cases this
      · exact h1
    have F2 : ∀ i oi ei, j < i → ops.toList[i]? = some oi → es[i]? = some ei → listed.getD i false = true → apartE ops.toList oj oi ej ei = true := by
      intro i oi ei hij hoi hei hli
      rcases hpair j i oj oi ej ei hij hoj' hoi hej hei with h1 | h1
      · have hri : Ready oi (fun i => listed.getD i false) := fun e he hb => hcl i oi hoi hli e he hb
        have := befN_bit hcl hedge ops.toList 0 [] (by simp) rfl (fun j o h => by omega) i oi hoi hri j h1
        simp only [hjf] at this
        cases this
      · exact h1
    have hget := path_get ops.toList ops.toList s0 es 0 hp j oj ej hoj' hej
    rw [Nat.zero_add] at hget
    obtain ⟨hd, hstep⟩ := hget
    have exE : ∀ k ok, ops.toList[k]? = some ok → ∃ ek, es[k]? = some ek := fun k ok hk => ⟨_, List.getElem?_eq_getElem (by rw [hlen]; exact (List.getElem?_eq_some_iff.1 hk).1)⟩
    have exO : ∀ k ek, es[k]? = some ek → ∃ ok, ops.toList[k]? = some ok := fun k ek hk => ⟨_, List.getElem?_eq_getElem (by rw [← hlen]; exact (List.getElem?_eq_some_iff.1 hk).1)⟩
    have unA : ∀ {x y : Oper} {ex ey : Eff}, apartE ops.toList x y ex ey = true → disj x.dst.toList (y.dst.toList ++ looks ops.toList y) = true ∧ disj y.dst.toList (looks ops.toList x) = true ∧ disj (ex.ch.map (·.1)) (ey.ch.map (·.1) ++ ey.rd) = true ∧ disj (ey.ch.map (·.1)) ex.rd = true := by
      intro x y ex ey hh
      unfold apartE at hh
      simp only [Bool.and_eq_true] at hh
      exact ⟨hh.1.1.1, hh.1.1.2, hh.1.2, hh.2⟩
    have hstep' : Step cx ops.toList (selS (fun i => listed.getD i false) ops.toList es 0 s0) oj ej := by
      refine hstep.move (fun t ht => ?_) (fun c hc => ?_)
      · refine sel_tm _ _ _ _ _ rfl (fun k ok hk hdk => ?_)
        rw [Nat.zero_add]
        obtain ⟨ek, hek⟩ := exE k ok hk
        rcases Nat.lt_trichotomy k j with hkj | hkj | hkj
        · rw [decide_eq_true hkj]
          cases hlk : listed.getD k false with
          | true => rfl
          | false =>
            have := (unA (F3 k ok ek hkj hk hek hlk)).1
            exact (disj_not this (x := t) (by rw [hdk]; simp) (List.mem_append.2 (.inr ht))).elim
        · subst hkj
          rw [decide_eq_false (by omega)]
          exact hjf
        · rw [decide_eq_false (by omega)]
          cases hlk : listed.getD k false with
          | false => rfl
          | true =>
            have := (unA (F2 k ok ek hkj hk hek hlk)).2.1
            exact (disj_not this (x := t) (by rw [hdk]; simp) ht).elim
      · refine sel_mem _ _ _ _ _ rfl (fun k ek hek hck => ?_)
        rw [Nat.zero_add]
        obtain ⟨ok, hk⟩ := exO k ek hek
        rcases Nat.lt_trichotomy k j with hkj | hkj | hkj
        · rw [decide_eq_true hkj]
          cases hlk : listed.getD k false with
          | true => rfl
          | false =>
            have := (unA (F3 k ok ek hkj hk hek hlk)).2.2.1
            exact (disj_not this (x := c) (keys_of hck) (List.mem_append.2 (.inr hc))).elim
        · subst hkj
          rw [decide_eq_false (by omega)]
          exact hjf
        · rw [decide_eq_false (by omega)]
          cases hlk : listed.getD k false with
          | false => rfl
          | true =>
            have := (unA (F2 k ok ek hkj hk hek hlk)).2.2.2
            exact (disj_not this (x := c) (keys_of hck) hc).elim
    refine op_step hP h hoj hd hstep' (fun E' a' w' h' => ?_)
    have hset : ∀ k, k ≠ j → (listed.setIfInBounds j true).getD k false = listed.getD k false := fun k hk => getD_set_ne false (Ne.symm hk)
    have hsetj : (listed.setIfInBounds j true).getD j false = true := by simp [Array.getD_eq_getD_getElem?, hsz, hjlt]
    refine ih (listed.setIfInBounds j true) E' a' w' (by simp [hsz]) (by have := toCome_set hsz hju; omega) (fun i oi hoi hi e he hb => ?_) (h'.congr (fun t => ?_) (fun c => ?_))
    · by_cases hij : i = j
      · subst hij
        rw [hoj'] at hoi
        cases hoi
        exact getD_set_true (hready e he hb)
      · simp only [hset i hij] at hi
        exact getD_set_true (hcl i oi hoi hi e he hb)
    · by_cases hdt : oj.dst = some t
      · rw [sel_tm_last ops.toList es 0 s0 j oj ej hoj' hej hdt (by rw [Nat.zero_add]; exact hsetj) (fun k ok hjk hk hdk => ?_)]
        · simp only [upd, hdt]; rw [lk_cons, if_pos rfl]
        · rw [Nat.zero_add]
          have hne : k ≠ j := by omega
          simp only [hset k hne]
          obtain ⟨ek, hek⟩ := exE k ok hk
          cases hlk : listed.getD k false with
          | false => rfl
          | true =>
            have := (unA (F2 k ok ek hjk hk hek hlk)).1
            exact (disj_not this (x := t) (by rw [hdt]; simp) (List.mem_append.2 (.inl (by rw [hdk]; simp)))).elim
      · have e1 : lk .any (upd (selS (fun i => listed.getD i false) ops.toList es 0 s0) oj.dst ej.v ej.ch).tm t = lk .any (selS (fun i => listed.getD i false) ops.toList es 0 s0).tm t := by
          simp only [upd]
          cases hq : oj.dst with
          | none => rfl
          | some d => rw [lk_cons, if_neg (fun e => hdt (by rw [hq, e]))]
        rw [e1]
        refine sel_tm _ _ _ _ _ rfl (fun k ok hk hdk => ?_)
        rw [Nat.zero_add]
        have hne : k ≠ j := fun e => by subst e; rw [hoj'] at hk; cases hk; exact hdt hdk
        exact hset k hne
    · cases hct : lkO ej.ch c with
      | some v =>
        rw [sel_mem_last ops.toList es 0 s0 j ej (by simpa using hjlt) hej hct (by rw [Nat.zero_add]; exact hsetj) (fun k ek hjk hek hck => ?_)]
        · simp only [upd]; rw [lkO_append, hct]
        · rw [Nat.zero_add]
          have hne : k ≠ j := by omega
          simp only [hset k hne]
          obtain ⟨ok, hk⟩ := exO k ek hek
          cases hlk : listed.getD k false with
          | false => rfl
          | true =>
            have := (unA (F2 k ok ek hjk hk hek hlk)).2.2.1
            exact (disj_not this (x := c) (keys_of (by rw [hct]; simp)) (List.mem_append.2 (.inl (keys_of hck)))).elim
      | none =>
        have e1 : lkO (upd (selS (fun i => listed.getD i false) ops.toList es 0 s0) oj.dst ej.v ej.ch).mem c = lkO (selS (fun i => listed.getD i false) ops.toList es 0 s0).mem c := by
          simp only [upd]; rw [lkO_append, hct]
        rw [e1]
        refine sel_mem _ _ _ _ _ rfl (fun k ek hek hck => ?_)
        rw [Nat.zero_add]
        have hne : k ≠ j := fun e => by subst e; rw [hej] at hek; cases hek; exact hck hct
        exact hset k hne

theorem region_draw (hP : CxOk P cx) {ops : Array Oper} {id : Nat} {R : St → Prop} (hR : ∀ E s a w, Rel P cx.nt B M I0 G w0 E s a w → R s → Q .normal a w) (h : Rel P cx.nt B M I0 G w0 E s a w) {es : List Eff} (hp : Path cx ops.toList ops.toList s es) (hr : R (endS ops.toList es s))
    (hind : indep ops.toList (endF 0 es []) = true) : (Code.region id ops true).wp P Q a w := by
  refine wp_region_any hP.mixed ?_
  have h0 : ∀ i, (Array.replicate ops.size false).getD i false = false := fun i => by
    simp only [Array.getD_eq_getD_getElem?, Array.getElem?_replicate]
    split <;> rfl
  have hc : ∀ n, toCome n (Array.replicate n false) = n := fun n => by
    unfold toCome
    rw [List.filter_eq_self.2 (fun i hi => by
      have := List.mem_range.1 hi
      simp [Array.getD_eq_getD_getElem?, this])]
    simp
  refine any_run hP hp hind hR hr ops.size (Array.replicate ops.size false) E a _ (by simp) (hc ops.size) (fun i oi _ hi => by simp only [h0] at hi; cases hi) ?_
  refine h.drew.congr (fun t => ?_) (fun c => ?_)
  · rw [sel_tm (D' := fun _ => false) _ _ _ _ s rfl (fun j o' _ _ => by simp only [h0])]
    have key : ∀ (l : List Oper) (es : List Eff) (i : Nat) (s : St), selS (fun _ => false) l es i s = s := by
      intro l
      induction l with
      | nil => intro es i s; cases es <;> rfl
      | cons o r ih => intro es i s; cases es with
        | nil => rfl
        | cons e es => simp only [selS]; exact ih es (i + 1) s
    rw [key]
  · rw [sel_mem (D' := fun _ => false) _ _ _ _ s rfl (fun j o' _ _ => by simp only [h0])]
    have key : ∀ (l : List Oper) (es : List Eff) (i : Nat) (s : St), selS (fun _ => false) l es i s = s := by
      intro l
      induction l with
      | nil => intro es i s; cases es <;> rfl
      | cons o r ih => intro es i s; cases es with
        | nil => rfl
        | cons e es => simp only [selS]; exact ih es (i + 1) s
    rw [key]
end
end Go.Rx

