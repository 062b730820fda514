/- The framework, part 10: slices of the function's own; conversions; the other operations on values. -/
import Derived.Test.YtcehjhdgdgkkgaaDoorJ0
namespace Go.Rx
set_option linter.unusedSectionVars false
open Go.RowKit

section
variable {cx : Cx} {P : Program} [Laid P] {B : Nat} {M I0 : Nat → Prop} {G : Nat → Value} {w0 : World} {E : Env} {s : St} {a : Act} {w : World} {o : Oper} {K : Act → World → Prop} {Q : Exit → Act → World → Prop}

/-- The block of a slice that has room. -/
def oB : Value → Option Nat
  | .slice _ _ 0 => none
  | v => v.ownBlock
theorem oB_some {x : Value} {b : Nat} (h : oB x = some b) : x.ownBlock = some b := by
  unfold oB at h
  split at h
  · cases h
  · exact h
def Env.withRow (E : Env) (c : Nat) (x : Value) : Env := { E with loc := fun k => if k = c then oB x else E.loc k, cv := fun k => if k = c then x else E.cv k }
theorem rowR_own {E : Env} {c e : Nat} {ks : List CK} {l : List SV} {x : Value} {w' : World} {xs : List Value} (hsh : ∀ v, v ∈ l → shOk ks v) (hown : w'.ownsRow 0 e ks.length x l.length xs)
    (hx : ∀ i j, i < l.length → j < ks.length → Conc E.I w' (xs.getD (i * ks.length + j) undef) (elCell l i j)) : RowR (E.withRow c x) w' c e ks l := by
  refine ⟨hsh, ?_⟩
  have z : ∀ ad, x = .slice ad 0 0 → l.length = 0 → RowZ (E.withRow c x) c l := fun ad e1 e2 => by
    subst e1; exact ⟨List.eq_nil_of_length_eq_zero e2, by simp [Env.withRow, oB], ad, by simp [Env.withRow]⟩
  rcases hown.2 with ⟨e1, e2⟩ | ⟨g, cap, cur, e1, hg, hh, hn, hm, hs, ht⟩
  · exact .inr (z none e1 e2)
  · by_cases hc : cap = 0
    · subst hc
      have h0 : l.length = 0 := by omega
      rw [h0] at e1
      exact .inr (z _ e1 h0)
    · refine .inl ⟨?_, xs, by simpa [Env.withRow] using hown, fun i j hi hj => hx i j hi hj⟩
      have : oB x = x.ownBlock := by
        rw [e1]; unfold oB
        split
        · rename_i q; cases q; exact absurd rfl hc
        · rfl
      simp only [Env.withRow, if_true, this]
theorem rowR_zero {E : Env} {c e : Nat} {ks : List CK} {l : List SV} {w' : World} {ad : Option Addr} (hl : l = []) : RowR (E.withRow c (.slice ad 0 0)) w' c e ks l := by
  subst hl
  exact ⟨fun v hv => (by cases hv), .inr ⟨rfl, (by simp [Env.withRow, oB]), ad, (by simp [Env.withRow])⟩⟩

/-- A slice of the function's own is new, or is another one. -/
theorem Rel.rowG (h : Rel P cx.nt B M I0 G w0 E s a w) {c ver e : Nat} {ks : List CK} {l : List SV} {x : Value} {w' : World} {row : Option Nat} {ch : List (Nat × Chunk)} {fz : List (Nat × Chunk)}
    (hfz : ch = (c, .row ver e ks l) :: fz) (hfz' : ∀ k, lkO fz k = none)
    (hc : (lkO s.mem c = none ∧ row = none) ∨ ∃ v, verOf (lkO s.mem c) = some v ∧ v < ver)
    (hg : w.grownBy w' row) (hrow : ∀ k, row = some k → E.loc c = some k)
    (hloc : ∀ b, oB x = some b → b < w'.heap.size ∧ ((lkO s.mem c ≠ none ∧ E.loc c = some b) ∨ w.heap.size ≤ b))
    (hR : RowR (E.withRow c x) w' c e ks l)
    {d : Option Nat} (hd : ∀ k, d = some k → k < cx.nt) :
    Rel P cx.nt B M I0 G w0 (E.withRow c x) (upd s d (.osl c ver) ch) (a.put d x) w' := by
  subst hfz
  have hlk : ∀ k, lkO (((c, Chunk.row ver e ks l) :: fz) ++ s.mem) k = if c = k then some (.row ver e ks l) else lkO s.mem k := fun k => by
    rw [List.cons_append, lkO_cons, lkO_append, hfz']
  have hI : ∀ b, E.I b → w'.heap[b]? = w.heap[b]? := fun b hb => hg.block b (h.inew b hb).1 (fun e => (h.loc c b (hrow b e.symm)).2.1 hb)
  have hm : ∀ y u, CV E (lkO s.mem) w y u → CV (E.withRow c x) (lkO (((c, Chunk.row ver e ks l) :: fz) ++ s.mem)) w' y u := fun y u hy => by
    refine CV.mono (E := E) (m := lkO s.mem) (w := w) (fun _ h => h) hI (fun k t cs b h1 h2 => ?_) (hq_of fun k b h1 h2 => ?_) (fun k v h1 => ?_) hy
    · have hk : ¬ k = c := fun e => by
        subst e
        rcases hc with ⟨hc, _⟩ | ⟨v, hc, _⟩
        · rw [hc] at h1; cases h1
        · rw [h1] at hc; cases hc
      exact ⟨⟨t, cs, by rw [hlk, if_neg (fun e => hk e.symm)]; exact h1⟩, by simp only [Env.withRow]; rw [if_neg hk]; exact h2⟩
    · have hk : ¬ k = c := fun e => by
        subst e
        rcases hc with ⟨hc, _⟩ | ⟨v, hc, _⟩
        · exact isPt_none h1 hc
        · exact isPt_ver h1 hc
      exact ⟨by rw [hlk, if_neg (fun e => hk e.symm)], by simp only [Env.withRow]; rw [if_neg hk]; exact h2⟩
    · by_cases hk : k = c
      · subst hk
        rcases hc with ⟨hc, _⟩ | ⟨v0, hc, hlt⟩
        · rw [hc] at h1; cases h1
        · rw [hc] at h1
          simp only [Option.some.injEq] at h1
          subst h1
          exact ⟨ver, by rw [hlk, if_pos rfl]; rfl, by omega, fun e => by omega⟩
      · exact ⟨v, by rw [hlk, if_neg (fun e => hk e.symm)]; exact h1, Nat.le_refl _, fun _ => ⟨by simp only [Env.withRow]; rw [if_neg hk], fun b hb => by simp only [Env.withRow] at hb; rw [if_neg hk] at hb; exact hb⟩⟩
  refine h.next hd ⟨hg.os, hg.tape, hg.output, hg.size, fun k hk hM => hg.block k (Nat.lt_of_lt_of_le hk h.base) (fun e => ?_)⟩ (fun _ h => h) (fun b hb => ⟨Nat.lt_of_lt_of_le (h.inew b hb).1 hg.size, (h.inew b hb).2⟩) ?_ ?_ hm ?_ ?_
  · have := (h.loc c k (hrow k e.symm)).2.2
    rcases this with h1 | h1 | h1
    · omega
    · exact hM h1
    · rcases hc with ⟨_, hc⟩ | ⟨v, hc, _⟩
      · rw [hc] at e; cases e
      · rw [h1.2] at hc; cases hc
  · intro k b hb
    rw [hlk]
    simp only [Env.withRow] at hb
    by_cases hk : k = c
    · rw [if_pos hk] at hb
      obtain ⟨h1, h2⟩ := hloc b hb
      rcases h2 with ⟨h3, h2⟩ | h2
      · obtain ⟨q1, q2, q3⟩ := h.loc c b h2
        refine ⟨h1, q2, ?_⟩
        rcases q3 with q3 | q3 | q3
        · exact .inl q3
        · exact .inr (.inl q3)
        · rcases hc with ⟨hc, _⟩ | ⟨v, hc, _⟩
          · exact (h3 hc).elim
          · rw [hc] at q3; cases q3.2
      · exact ⟨h1, fun hI' => by have := (h.inew b hI').1; omega, .inl (Nat.le_trans h.base h2)⟩
    · rw [if_neg hk] at hb
      obtain ⟨h1, h2⟩ := h.loc k b hb
      rw [if_neg (fun e => hk e.symm)]
      exact ⟨Nat.lt_of_lt_of_le h1 hg.size, h2⟩
  · intro k k' b hb hb'
    simp only [Env.withRow] at hb hb'
    by_cases hk : k = c <;> by_cases hk' : k' = c
    · rw [hk, hk']
    · rw [if_pos hk] at hb
      rw [if_neg hk'] at hb'
      rcases (hloc b hb).2 with ⟨_, h2⟩ | h2
      · exact (hk' (h.inj k' c b hb' h2)).elim
      · have := (h.loc k' b hb').1; omega
    · rw [if_neg hk] at hb
      rw [if_pos hk'] at hb'
      rcases (hloc b hb').2 with ⟨_, h2⟩ | h2
      · exact (hk (h.inj k c b hb h2)).elim
      · have := (h.loc k b hb).1; omega
    · rw [if_neg hk] at hb
      rw [if_neg hk'] at hb'
      exact h.inj k k' b hb hb'
  · exact .osl _ c ver ver (by rw [hlk, if_pos rfl]; rfl) (Nat.le_refl _) (fun _ => by simp [Env.withRow])
  · intro k
    rw [hlk]
    by_cases hk : c = k
    · subst hk
      rw [if_pos rfl]
      exact hR
    · rw [if_neg hk]
      have hk' : ¬ k = c := fun e => hk e.symm
      exact ChR.mono (E := E) (m := lkO s.mem) (w := w) (fun _ h => h) hI hm (by simp only [Env.withRow]; rw [if_neg hk']) (by simp only [Env.withRow]; rw [if_neg hk'])
        (fun b hb => hg.block b (h.loc k b hb).1 (fun e => hk' (h.inj k c b hb (hrow b e.symm)))) (h.ch k)

theorem Rel.row (h : Rel P cx.nt B M I0 G w0 E s a w) {c ver e : Nat} {ks : List CK} {l : List SV} {x : Value} {w' : World} {row : Option Nat} {ch : List (Nat × Chunk)} {fz : List (Nat × Chunk)}
    (hfz : ch = (c, .row ver e ks l) :: fz) (hfz' : ∀ k, lkO fz k = none)
    (hc : (lkO s.mem c = none ∧ row = none) ∨ ∃ v, verOf (lkO s.mem c) = some v ∧ v < ver)
    (hg : w.grownBy w' row) (hrow : ∀ k, row = some k → E.loc c = some k)
    (hloc : ∀ b, x.ownBlock = some b → b < w'.heap.size ∧ ((lkO s.mem c ≠ none ∧ E.loc c = some b) ∨ w.heap.size ≤ b))
    (hsh : ∀ v, v ∈ l → shOk ks v) {xs : List Value} (hown : w'.ownsRow 0 e ks.length x l.length xs) (hx : ∀ i j, i < l.length → j < ks.length → Conc E.I w' (xs.getD (i * ks.length + j) undef) (elCell l i j))
    {d : Option Nat} (hd : ∀ k, d = some k → k < cx.nt) :
    Rel P cx.nt B M I0 G w0 (E.withRow c x) (upd s d (.osl c ver) ch) (a.put d x) w' :=
  h.rowG hfz hfz' hc hg hrow (fun b hb => hloc b (oB_some hb)) (rowR_own hsh hown hx) hd
/-- .. one without elements, and without room. -/
theorem Rel.rowZ (h : Rel P cx.nt B M I0 G w0 E s a w) {c ver e : Nat} {ks : List CK} {l : List SV} {ad : Option Addr}
    (hc : lkO s.mem c = none ∨ ∃ v, verOf (lkO s.mem c) = some v ∧ v < ver) (hl : l = []) {d : Option Nat} (hd : ∀ k, d = some k → k < cx.nt) :
    Rel P cx.nt B M I0 G w0 (E.withRow c (.slice ad 0 0)) (upd s d (.osl c ver) [(c, .row ver e ks l)]) (a.put d (.slice ad 0 0)) w :=
  h.rowG (row := none) rfl (fun _ => rfl) (hc.imp (fun h => ⟨h, rfl⟩) (fun h => h)) ⟨rfl, rfl, rfl, Nat.le_refl _, fun _ _ _ => rfl⟩ (fun k hk => by cases hk) (fun b hb => by cases hb) (rowR_zero hl) hd

/-- Slices of the function's own are written no more. -/
theorem Rel.freeze1 (h : Rel P cx.nt B M I0 G w0 E s a w) {c v e : Nat} {ks : List CK} {l : List SV} (hc : lkO s.mem c = some (.row v e ks l)) :
    ∃ E', Rel P cx.nt B M I0 G w0 E' ⟨s.tm, (c, .froz v ks l) :: s.mem⟩ a w ∧ (∀ b, E.I b → E'.I b) ∧ E'.cv = E.cv := by
  have hr : RowR E w c e ks l := by have := h.ch c; rw [hc] at this; exact this
  let E' : Env := { loc := fun k => if k = c then none else E.loc k, cv := E.cv, I := fun b => E.I b ∨ E.loc c = some b, gv := E.gv }
  have hlk : ∀ k, lkO ((c, Chunk.froz v ks l) :: s.mem) k = if c = k then some (.froz v ks l) else lkO s.mem k := fun k => lkO_cons ..
  have hm : ∀ y u, CV E (lkO s.mem) w y u → CV E' (lkO ((c, Chunk.froz v ks l) :: s.mem)) w y u := fun y u hy => by
    refine CV.mono (E := E) (m := lkO s.mem) (w := w) (fun _ h => .inl h) (fun _ _ => rfl) (fun k t cs b h1 h2 => ?_) (hq_of fun k b h1 h2 => ?_) (fun k v' h1 => ?_) hy
    · have hk : ¬ k = c := fun e => by subst e; rw [hc] at h1; cases h1
      exact ⟨⟨t, cs, by rw [hlk, if_neg (fun e => hk e.symm)]; exact h1⟩, by show (if k = c then none else E.loc k) = some b; rw [if_neg hk]; exact h2⟩
    · have hk : ¬ k = c := fun e => by subst e; exact isPt_row h1 hc
      exact ⟨by rw [hlk, if_neg (fun e => hk e.symm)], by show (if k = c then none else E.loc k) = some b; rw [if_neg hk]; exact h2⟩
    · by_cases hk : k = c
      · subst hk
        rw [hc] at h1
        simp only [verOf, Option.some.injEq] at h1
        subst h1
        exact ⟨v, by rw [hlk, if_pos rfl]; rfl, Nat.le_refl _, fun _ => ⟨rfl, fun b hb => by simp [E'] at hb⟩⟩
      · exact ⟨v', by rw [hlk, if_neg (fun e => hk e.symm)]; exact h1, Nat.le_refl _, fun _ => ⟨rfl, fun b hb => by simpa [E', hk] using hb⟩⟩
  refine ⟨E', ⟨h.defers, h.tsize, h.fr, h.base, fun b hb => .inl (h.i0 b hb), ?_, ?_, ?_, fun t => hm _ _ (h.tm t), ?_, h.ld, h.gv⟩, fun _ h => .inl h, rfl⟩
  · intro b hb
    rcases hb with hb | hb
    · exact h.inew b hb
    · obtain ⟨q1, q2, q3⟩ := h.loc c b hb
      refine ⟨q1, .inr ?_⟩
      rcases q3 with q3 | q3 | q3
      · exact .inl q3
      · exact .inr q3
      · rw [hc] at q3; simp [verOf] at q3
  · intro k b hb
    have hb' : (if k = c then none else E.loc k) = some b := hb
    by_cases hk : k = c
    · rw [if_pos hk] at hb'; cases hb'
    · rw [if_neg hk] at hb'
      obtain ⟨q1, q2, q3⟩ := h.loc k b hb'
      refine ⟨q1, fun hI => ?_, ?_⟩
      · rcases hI with hI | hI
        · exact q2 hI
        · exact hk (h.inj k c b hb' hI)
      · show _ ∨ _ ∨ (_ ∧ verOf (lkO ((c, Chunk.froz v ks l) :: s.mem) k) = none)
        rw [hlk, if_neg (fun e => hk e.symm)]
        exact q3
  · intro k k' b hb hb'
    have hb1 : (if k = c then none else E.loc k) = some b := hb
    have hb2 : (if k' = c then none else E.loc k') = some b := hb'
    by_cases hk : k = c
    · rw [if_pos hk] at hb1; cases hb1
    · by_cases hk' : k' = c
      · rw [if_pos hk'] at hb2; cases hb2
      · rw [if_neg hk] at hb1
        rw [if_neg hk'] at hb2
        exact h.inj k k' b hb1 hb2
  · intro k
    show ChR E' (lkO ((c, Chunk.froz v ks l) :: s.mem)) w k (lkO ((c, Chunk.froz v ks l) :: s.mem) k)
    rw [hlk]
    by_cases hk : c = k
    · subst hk
      rw [if_pos rfl]
      exact hr.toConc (I := E'.I) (fun _ h => .inl h) (fun b hb => .inr hb)
    · rw [if_neg hk]
      have hk' : ¬ k = c := fun e => hk e.symm
      exact ChR.mono (E := E) (m := lkO s.mem) (w := w) (fun _ h => .inl h) (fun _ _ => rfl) hm (by show (if k = c then none else E.loc k) = E.loc k; rw [if_neg hk']) rfl (fun _ _ => rfl) (h.ch k)

theorem freezes_lk {m : List (Nat × Chunk)} {c v e : Nat} {ks : List CK} {l : List SV} (hm : lkO m c = some (.row v e ks l)) : ∀ cs, lkO (freezes m cs) c = none ∨ lkO (freezes m cs) c = some (.froz v ks l)
  | [] => .inl rfl
  | d :: r => by
    have ih := freezes_lk hm r
    simp only [freezes]
    split
    · rename_i v2 e2 ks2 l2 hd
      rw [lkO_cons]
      by_cases e3 : d = c
      · subst e3; rw [hm] at hd; cases hd; exact .inr (if_pos rfl)
      · rw [if_neg e3]; exact ih
    · exact ih

/-- .. several of them. -/
theorem Rel.freeze : ∀ (cs : List Nat) {E : Env} {s : St} (m : List (Nat × Chunk)), Rel P cx.nt B M I0 G w0 E s a w → (∀ c, c ∈ cs → lkO s.mem c = lkO m c ∨ ∃ v e ks l, lkO m c = some (.row v e ks l) ∧ lkO s.mem c = some (.froz v ks l)) →
    ∃ E' s', Rel P cx.nt B M I0 G w0 E' s' a w ∧ s'.tm = s.tm ∧ (∀ k, lkO s'.mem k = (match lkO (freezes m cs) k with | some ch => some ch | none => lkO s.mem k)) ∧ (∀ b, E.I b → E'.I b) ∧ E'.cv = E.cv
  | [], E, s, m, h, _ => ⟨E, s, h, rfl, fun k => by simp [freezes, lkO], fun _ h => h, rfl⟩
  | c :: cs, E, s, m, h, hc => by
    by_cases hrow : ∃ v e ks l, lkO m c = some (.row v e ks l)
    · obtain ⟨v, e, ks, l, hm⟩ := hrow
      have hfz : freezes m (c :: cs) = (c, .froz v ks l) :: freezes m cs := by simp only [freezes, hm]
      rcases hc c (List.mem_cons_self ..) with h0 | ⟨v', e', ks', l', h0, h0'⟩
      · rw [hm] at h0
        obtain ⟨E1, h1, h2, h3⟩ := h.freeze1 h0
        obtain ⟨E', s', q1, q2, q3, q4, q5⟩ := Rel.freeze cs m h1 (fun k hk => by
          dsimp only
          rw [lkO_cons]
          by_cases e1 : c = k
          · subst e1; rw [if_pos rfl]; exact .inr ⟨v, e, ks, l, hm, rfl⟩
          · rw [if_neg e1]; exact hc k (List.mem_cons_of_mem _ hk))
        refine ⟨E', s', q1, q2, fun k => ?_, fun b hb => q4 b (h2 b hb), q5.trans h3⟩
        rw [q3, hfz]
        dsimp only
        rw [lkO_cons, lkO_cons]
        by_cases e1 : c = k
        · subst e1
          rw [if_pos rfl, if_pos rfl]
          rcases freezes_lk hm cs with e2 | e2 <;> rw [e2]
        · rw [if_neg e1, if_neg e1]
      · rw [hm] at h0
        cases h0
        obtain ⟨E', s', q1, q2, q3, q4, q5⟩ := Rel.freeze cs m h (fun k hk => hc k (List.mem_cons_of_mem _ hk))
        refine ⟨E', s', q1, q2, fun k => ?_, q4, q5⟩
        rw [q3, hfz, lkO_cons]
        by_cases e1 : c = k
        · subst e1
          rw [if_pos rfl]
          rcases freezes_lk hm cs with e2 | e2 <;> rw [e2]
          exact h0'
        · rw [if_neg e1]
    · obtain ⟨E', s', q1, q2, q3, q4, q5⟩ := Rel.freeze cs m h (fun k hk => hc k (List.mem_cons_of_mem _ hk))
      have hfz : freezes m (c :: cs) = freezes m cs := by
        simp only [freezes]
        split
        · rename_i v e ks l hm; exact (hrow ⟨v, e, ks, l, hm⟩).elim
        · rfl
      exact ⟨E', s', q1, q2, fun k => by rw [q3, hfz], q4, q5⟩
end
end Go.Rx

/- The framework, part 11: calls. -/
namespace Go.Rx
set_option linter.unusedSectionVars false
open Go.RowKit

section
variable {cx : Cx} {P : Program} [Laid P] {B : Nat} {M I0 : Nat → Prop} {G : Nat → Value} {w0 : World} {E : Env} {s : St} {a : Act} {w : World} {o : Oper} {K : Act → World → Prop} {Q : Exit → Act → World → Prop}

theorem freezes_mem {m : List (Nat × Chunk)} {c v e : Nat} {ks : List CK} {l : List SV} (hm : lkO m c = some (.row v e ks l)) : ∀ cs, c ∈ cs → lkO (freezes m cs) c = some (.froz v ks l)
  | d :: r, hc => by
    simp only [freezes]
    split
    · rename_i v2 e2 ks2 l2 hd
      rw [lkO_cons]
      by_cases e3 : d = c
      · subst e3; rw [hm] at hd; cases hd; exact if_pos rfl
      · rw [if_neg e3]
        exact freezes_mem hm r ((List.mem_cons.1 hc).resolve_left (fun e => e3 e.symm))
    · rename_i hn
      by_cases e3 : d = c
      · subst e3; exact (hn _ _ _ _ hm).elim
      · exact freezes_mem hm r ((List.mem_cons.1 hc).resolve_left (fun e => e3 e.symm))

theorem freezes_none {m : List (Nat × Chunk)} {c : Nat} (hm : ∀ v e ks l, lkO m c ≠ some (.row v e ks l)) : ∀ cs, lkO (freezes m cs) c = none
  | [] => rfl
  | d :: r => by
    simp only [freezes]
    split
    · rename_i v2 e2 ks2 l2 hd
      rw [lkO_cons]
      by_cases e3 : d = c
      · subst e3; exact (hm _ _ _ _ hd).elim
      · rw [if_neg e3]; exact freezes_none hm r
    · exact freezes_none hm r

/-- These slices are written no more. -/
def Frozen (m m' : List (Nat × Chunk)) (cs : List Nat) : Prop := ∀ c, c ∈ cs → (∀ v e ks l, lkO m c = some (.row v e ks l) → lkO m' c = some (.froz v ks l)) ∧ (∀ v ks l, lkO m c = some (.froz v ks l) → lkO m' c = some (.froz v ks l))

theorem frozen_of {m m' : List (Nat × Chunk)} {cs : List Nat} (h : ∀ k, lkO m' k = (match lkO (freezes m cs) k with | some ch => some ch | none => lkO m k)) : Frozen m m' cs := by
  intro c hc
  refine ⟨fun v e ks l hm => ?_, fun v ks l hm => ?_⟩
  · rw [h, freezes_mem hm cs hc]
  · rw [h, freezes_none (fun v' e' ks' l' h' => by rw [hm] at h'; cases h') cs]
    exact hm

theorem resolve_osl {m m' : List (Nat × Chunk)} {E : Env} {w : World} {c ver : Nat} {x : Value} (hch : ∀ c, ChR E (lkO m') w c (lkO m' c)) (hf : Frozen m m' [c]) (h : CV E (lkO m') w x (.osl c ver)) : CV E (lkO m') w x (resolve m (.osl c ver)) := by
  obtain ⟨h1, h2⟩ := hf c (List.mem_singleton.2 rfl)
  have key : ∀ v ks l, lkO m' c = some (.froz v ks l) → v = ver → CV E (lkO m') w x (.sl ks l) := by
    intro v ks l hc hv
    obtain ⟨v', e1, e2⟩ := h.inv_osl
    rw [hc] at e1
    simp only [verOf, Option.some.injEq] at e1
    have hcc := hch c
    rw [hc] at hcc
    rw [e2 (by omega)]
    exact .conc _ _ hcc
  simp only [resolve]
  split
  · rename_i v e ks l hm
    cases hb : Nat.beq v ver with
    | true => exact key v ks l (h1 v e ks l hm) (Nat.eq_of_beq_eq_true hb)
    | false => exact h
  · rename_i v ks l hm
    cases hb : Nat.beq v ver with
    | true => exact key v ks l (h2 v ks l hm) (Nat.eq_of_beq_eq_true hb)
    | false => exact h
  · exact h

mutual
theorem resolve_cv {m m' : List (Nat × Chunk)} {E : Env} {w : World} (hch : ∀ c, ChR E (lkO m') w c (lkO m' c)) : ∀ (v : SV) (x : Value), Frozen m m' (names v) → CV E (lkO m') w x v → CV E (lkO m') w x (resolve m v)
  | .osl c ver, x, hf, h => resolve_osl hch hf h
  | .agg cs, x, hf, h => by
    obtain ⟨xs, rfl, h1, h2⟩ := h.inv_agg
    exact .agg xs _ (by rw [resolveL_length]; exact h1) (fun i => resolveL_cv hch cs hf i _ (h2 i))
  | .tup cs, x, hf, h => by
    obtain ⟨xs, rfl, h1, h2⟩ := h.inv_tup
    exact .tup xs _ (by rw [resolveL_length]; exact h1) (fun i => resolveL_cv hch cs hf i _ (h2 i))
  | .fn f cs, x, hf, h => by
    obtain ⟨xs, rfl, h1, h2⟩ := h.inv_fn
    exact .fn f xs _ (by rw [resolveL_length]; exact h1) (fun i => resolveL_cv hch cs hf i _ (h2 i))
  | .any, _, _, h => h
  | .und, _, _, h => h
  | .int _ _, _, _, h => h
  | .bool _, _, _, h => h
  | .tt, _, _, h => h
  | .ff, _, _, h => h
  | .str _, _, _, h => h
  | .flt _, _, _, h => h
  | .cpx _ _, _, _, h => h
  | .ptr _ _, _, _, h => h
  | .ptx _ _, _, _, h => h
  | .rptr _ _ _ _ _, _, _, h => h
  | .sl _ _, _, _, h => h
  | .ep _ _ _ _, _, _, h => h
  | .oep _ _ _ _ _, _, _, h => h
  | .nb _, _, _, h => h
  | .fsl _ _, _, _, h => h
  | .lp _ _, _, _, h => h
  | .mpp _, _, _, h => h
  | .itp _, _, _, h => h
  | .otl _ _ _ _, _, _, h => h
  | .nilsl, _, _, h => h
  | .nilp, _, _, h => h
theorem resolveL_cv {m m' : List (Nat × Chunk)} {E : Env} {w : World} (hch : ∀ c, ChR E (lkO m') w c (lkO m' c)) : ∀ (cs : List SV), Frozen m m' (namesL cs) → ∀ (i : Nat) (x : Value), CV E (lkO m') w x (cs.getD i .any) → CV E (lkO m') w x ((resolveL m cs).getD i .any)
  | [], _, i, x, h => by simpa [resolveL] using h
  | v :: r, hf, 0, x, h => by
    simpa [resolveL] using resolve_cv hch v x (fun c hc => hf c (by simp only [namesL, List.mem_append]; exact .inl hc)) (by simpa using h)
  | v :: r, hf, i + 1, x, h => by
    simpa [resolveL] using resolveL_cv hch r (fun c hc => hf c (by simp only [namesL, List.mem_append]; exact .inr hc)) i x (by simpa using h)
theorem resolveL_length {m : List (Nat × Chunk)} : ∀ (cs : List SV), (resolveL m cs).length = cs.length
  | [] => rfl
  | v :: r => by simp [resolveL, resolveL_length r]
end

/-- Behind a call. -/
theorem Rel.called (h : Rel P cx.nt B M I0 G w0 E s a w) {w' : World} {I' : Nat → Prop} (hfr : Fr w.heap.size (fun _ => False) w w') (hI : ∀ b, E.I b → I' b) (hI' : ∀ b, I' b → b < w'.heap.size ∧ (E.I b ∨ w.heap.size ≤ b))
    {x : Value} {v : SV} (hx : Conc I' w' x v) {d : Option Nat} (hd : ∀ k, d = some k → k < cx.nt) : Rel P cx.nt B M I0 G w0 { E with I := I' } (upd s d v []) (a.put d x) w' := by
  have hsame : ∀ b, b < w.heap.size → w'.heap[b]? = w.heap[b]? := fun b hb => hfr.block b hb (fun h => h)
  have hm : ∀ y u, CV E (lkO s.mem) w y u → CV { E with I := I' } (lkO s.mem) w' y u := fun y u hy =>
    CV.mono (E := E) (m := lkO s.mem) (w := w) hI (fun b hb => hsame b (h.inew b hb).1) (fun c t cs b h1 h2 => ⟨⟨t, cs, h1⟩, h2⟩) (hq_of fun _ _ _ h => ⟨rfl, h⟩) (fun c v h => ⟨v, h, Nat.le_refl _, fun _ => ⟨rfl, fun _ h => h⟩⟩) hy
  refine h.next hd ⟨hfr.os, hfr.tape, hfr.output, hfr.size, fun k hk hM => hsame k (Nat.lt_of_lt_of_le hk h.base)⟩ hI (fun b hb => ⟨(hI' b hb).1, ?_⟩) (fun c b hb => ?_) h.inj hm (.conc _ _ hx) (fun c => ?_)
  · rcases (hI' b hb).2 with h1 | h1
    · exact (h.inew b h1).2
    · exact .inr (.inl (Nat.le_trans h.base h1))
  · obtain ⟨q1, q2, q3⟩ := h.loc c b hb
    refine ⟨Nat.lt_of_lt_of_le q1 hfr.size, fun hI => ?_, q3⟩
    rcases (hI' b hI).2 with h1 | h1
    · exact q2 h1
    · omega
  · exact ChR.mono (E := E) (m := lkO s.mem) (w := w) hI (fun b hb => hsame b (h.inew b hb).1) hm rfl rfl (fun b hb => hsame b (h.loc c b hb).1) (h.ch c)

theorem upd_congr {s s' : St} {d : Option Nat} {v : SV} {ch : List (Nat × Chunk)} (ht : s'.tm = s.tm) (hm : ∀ k, lkO s'.mem k = (match lkO ch k with | some c => some c | none => lkO s.mem k)) :
    (∀ t, lk .any (upd s d v ch).tm t = lk .any (upd s' d v []).tm t) ∧ (∀ c, lkO (upd s d v ch).mem c = lkO (upd s' d v []).mem c) := by
  refine ⟨fun t => by simp only [upd, ht], fun c => ?_⟩
  simp only [upd, List.nil_append]
  rw [lkO_append, hm]
  cases lkO ch c <;> rfl

theorem argsEval (c : List Operand) (g : Operand → SV) (e : Operand → Value) {m : Nat → Option Chunk} (h : ∀ x, CV E m w (e x) (g x)) (i : Nat) : CV E m w ((c.map e).getD i undef) ((c.map g).getD i .any) := by
  induction c generalizing i with
  | nil => simpa using CV.conc _ _ (.any _)
  | cons x r ih =>
    cases i with
    | zero => simpa using h x
    | succ i => simpa using ih i

theorem append_cv {m : Nat → Option Chunk} {xs ys : List Value} {us vs : List SV} (hl : xs.length = us.length) (h1 : ∀ i, CV E m w (xs.getD i undef) (us.getD i .any)) (h2 : ∀ i, CV E m w (ys.getD i undef) (vs.getD i .any)) (i : Nat) :
    CV E m w ((xs ++ ys).getD i undef) ((us ++ vs).getD i .any) := by
  by_cases hi : i < xs.length
  · have e1 : (xs ++ ys).getD i undef = xs.getD i undef := by simp only [List.getD_eq_getElem?_getD]; rw [List.getElem?_append_left hi]
    have e2 : (us ++ vs).getD i .any = us.getD i .any := by simp only [List.getD_eq_getElem?_getD]; rw [List.getElem?_append_left (by omega)]
    rw [e1, e2]; exact h1 i
  · have e1 : (xs ++ ys).getD i undef = ys.getD (i - us.length) undef := by simp only [List.getD_eq_getElem?_getD]; rw [List.getElem?_append_right (by omega), hl]
    have e2 : (us ++ vs).getD i .any = vs.getD (i - us.length) .any := by simp only [List.getD_eq_getElem?_getD]; rw [List.getElem?_append_right (by omega)]
    rw [e1, e2]; exact h2 _

mutual
theorem plainR_conc {I I' : Nat → Prop} {w w' : World} : ∀ (v : SV), plainR v = true → ∀ (x : Value), Conc I w x v → Conc I' w' x v
  | .any, _, x, _ => .any x
  | .int _ _, _, _, h => by cases h; exact .int _ _
  | .bool _, _, _, h => by cases h; exact .bool _
  | .tt, _, _, h => by cases h; exact .tt
  | .ff, _, _, h => by cases h; exact .ff
  | .str _, _, _, h => by cases h with | str b _ h => exact .str b _ h
  | .flt _, _, _, h => by cases h; exact .flt _
  | .cpx _ _, _, _, h => by cases h; exact .cpx _ _
  | .nilsl, _, _, h => by cases h; exact .nilsl
  | .nilp, _, _, h => by cases h; exact .nilp
  | .tup cs, hp, _, h => by
    cases h with
    | tup xs _ hs hx => exact .tup xs cs hs (fun i => plainRs_conc cs hp i _ (hx i))
  | .agg cs, hp, _, h => by
    cases h with
    | agg xs _ hs hx => exact .agg xs cs hs (fun i => plainRs_conc cs hp i _ (hx i))
theorem plainRs_conc {I I' : Nat → Prop} {w w' : World} : ∀ (cs : List SV), plainRs cs = true → ∀ (i : Nat) (x : Value), Conc I w x (cs.getD i .any) → Conc I' w' x (cs.getD i .any)
  | [], _, i, x, _ => by simpa using Conc.any x
  | v :: r, hp, 0, x, h => by
    simp only [plainRs, Bool.and_eq_true] at hp
    simpa using plainR_conc v hp.1 x (by simpa using h)
  | v :: r, hp, i + 1, x, h => by
    simp only [plainRs, Bool.and_eq_true] at hp
    simpa using plainRs_conc r hp.2 i x (by simpa using h)
end

theorem lendL_length {m : List (Nat × Chunk)} : ∀ (vs : List SV), (lendL m vs).length = vs.length
  | [] => rfl
  | v :: r => by simp [lendL, lendL_length r]
theorem lendCs_length {m : List (Nat × Chunk)} : ∀ (vs : List SV), (lendCs m vs).length = vs.length
  | [] => rfl
  | v :: r => by simp [lendCs, lendCs_length r]
theorem lendC_ok {s' : St} {m : List (Nat × Chunk)} (h : Rel P cx.nt B M I0 G w0 E s' a w) (hmp : ∀ c t k e l ck, lkO m c = some (.mp t k e l ck) → lkO s'.mem c = some (.mp t k e l ck)) (v : SV) (x : Value) (hf : Frozen m s'.mem (namC v)) (hc : closed (lendC m v) = true) (hx : CV E (lkO s'.mem) w x v) :
    Conc E.I w x (lendC m v) ∨ MpC E.I w x (lendC m v) := by
  have gen : lendC m v = resolve m v → namC v = names v → Conc E.I w x (lendC m v) ∨ MpC E.I w x (lendC m v) := fun e1 e2 => by
    rw [e1] at hc ⊢
    rw [e2] at hf
    exact .inl (closed_conc _ _ hc (resolve_cv h.ch v x hf hx))
  cases v with
  | mpp d =>
    simp only [lendC] at hc ⊢
    cases hm : lkO m d with
    | none => simp only [hm, closed] at hc; cases hc
    | some ch =>
      cases ch with
      | mp ty kk vk l ck =>
        dsimp only
        obtain ⟨b, rfl, _, e2⟩ := hx.inv_mpp
        have hch := h.ch d
        rw [hmp d _ _ _ _ _ hm] at hch
        obtain ⟨b', p1, p2⟩ := hch
        rw [e2] at p1
        cases p1
        obtain ⟨k1, k2, _⟩ := h.loc d b e2
        exact .inr ⟨ty, kk, vk, l, b, ck, rfl, rfl, p2, k1, k2⟩
      | box => simp only [hm, closed] at hc; cases hc
      | row => simp only [hm, closed] at hc; cases hc
      | froz => simp only [hm, closed] at hc; cases hc
      | gh => simp only [hm, closed] at hc; cases hc
      | it => simp only [hm, closed] at hc; cases hc
  | _ => exact gen rfl rfl
theorem lendCs_ok {s' : St} {m : List (Nat × Chunk)} (h : Rel P cx.nt B M I0 G w0 E s' a w) (hmp : ∀ c t k e l ck, lkO m c = some (.mp t k e l ck) → lkO s'.mem c = some (.mp t k e l ck)) : ∀ (vs : List SV), Frozen m s'.mem (namCs vs) → closedL (lendCs m vs) = true →
    ∀ (i : Nat) (x : Value), CV E (lkO s'.mem) w x (vs.getD i .any) → Conc E.I w x ((lendCs m vs).getD i .any) ∨ MpC E.I w x ((lendCs m vs).getD i .any)
  | [], _, _, i, x, _ => .inl (by simpa [lendCs] using Conc.any x)
  | v :: r, hf, hc, 0, x, hx => by
    simp only [lendCs, closedL, Bool.and_eq_true] at hc
    simpa [lendCs] using lendC_ok h hmp v x (fun c hc => hf c (by simp only [namCs, List.mem_append]; exact .inl hc)) hc.1 (by simpa using hx)
  | v :: r, hf, hc, i + 1, x, hx => by
    simp only [lendCs, closedL, Bool.and_eq_true] at hc
    simpa [lendCs] using lendCs_ok h hmp r (fun c hc => hf c (by simp only [namCs, List.mem_append]; exact .inr hc)) hc.2 i x (by simpa using hx)
theorem lend_ok {s' : St} {m : List (Nat × Chunk)} (h : Rel P cx.nt B M I0 G w0 E s' a w) (hbox : ∀ c t cs, lkO m c = some (.box t cs) → lkO s'.mem c = some (.box t cs)) (hmp : ∀ c t k e l ck, lkO m c = some (.mp t k e l ck) → lkO s'.mem c = some (.mp t k e l ck)) (v : SV) (x : Value) (hf : Frozen m s'.mem (lnames m v)) (hc : closedA (lend m v) = true) (hx : CV E (lkO s'.mem) w x v) : ArgOK E.I w x (lend m v) := by
  have plain : lend m v = resolve m v → lnames m v = names v → closed (resolve m v) = true → ArgOK E.I w x (lend m v) := fun e1 e2 e3 => by
    rw [e1]
    rw [e2] at hf
    exact .inl (closed_conc _ _ e3 (resolve_cv h.ch v x hf hx))
  have gen : (∀ t cs, resolve m v ≠ .lp t cs) → lend m v = resolve m v → lnames m v = names v → ArgOK E.I w x (lend m v) := fun e0 e1 e2 => plain e1 e2 (by
    rw [e1] at hc
    generalize resolve m v = u at hc e0
    cases u <;> first | exact hc | exact absurd rfl (e0 _ _))
  cases v with
  | ptr c off =>
    cases off with
    | succ n => exact gen (by simp [resolve]) rfl rfl
    | zero =>
      cases hm : lkO m c with
      | none => simp only [lend, hm, closedA, closed] at hc; cases hc
      | some ch =>
        cases ch with
        | box t cs =>
          simp only [lend, lnames, hm] at hc hf ⊢
          have hm' := hbox c t cs hm
          obtain ⟨b, t', cs', e1, e2, e3⟩ := hx.inv_ptr
          have hch := h.ch c
          rw [hm'] at hch
          obtain ⟨b', ys, p1, p2, p3, p4⟩ := hch
          rw [e3] at p1
          cases p1
          obtain ⟨k1, k2, _⟩ := h.loc c b e3
          exact .inr ⟨t, _, b, ys, rfl, e1, p2, by rw [lendCs_length]; exact p3, fun i => lendCs_ok h hmp cs hf hc i _ (p4 i), k1, k2⟩
        | row => simp only [lend, hm, closedA, closed] at hc; cases hc
        | froz => simp only [lend, hm, closedA, closed] at hc; cases hc
        | gh => simp only [lend, hm, closedA, closed] at hc; cases hc
        | mp => simp only [lend, hm, closedA, closed] at hc; cases hc
        | it => simp only [lend, hm, closedA, closed] at hc; cases hc
  | lp t cs => cases hx with | conc _ _ h => cases h
  | osl c ver =>
    refine gen (fun t cs he => ?_) rfl rfl
    simp only [resolve] at he
    cases hm : lkO m c with
    | none => simp only [hm] at he; cases he
    | some ch =>
      cases ch <;> simp only [hm] at he <;> first | cases he | (split at he <;> cases he)
  | agg cs => exact gen (by simp [resolve]) rfl rfl
  | tup cs => exact gen (by simp [resolve]) rfl rfl
  | fn f cs => exact gen (by simp [resolve]) rfl rfl
  | _ => exact gen (by simp [resolve]) rfl rfl
theorem lendL_ok {s' : St} {m : List (Nat × Chunk)} (h : Rel P cx.nt B M I0 G w0 E s' a w) (hbox : ∀ c t cs, lkO m c = some (.box t cs) → lkO s'.mem c = some (.box t cs)) (hmp : ∀ c t k e l ck, lkO m c = some (.mp t k e l ck) → lkO s'.mem c = some (.mp t k e l ck)) : ∀ (vs : List SV), Frozen m s'.mem (lnamesL m vs) → closedAL (lendL m vs) = true → ∀ (i : Nat) (x : Value), CV E (lkO s'.mem) w x (vs.getD i .any) → ArgOK E.I w x ((lendL m vs).getD i .any)
  | [], _, _, i, x, _ => .inl (by simpa [lendL] using Conc.any x)
  | v :: r, hf, hc, 0, x, hx => by
    simp only [lendL, closedAL, Bool.and_eq_true] at hc
    simpa [lendL] using lend_ok h hbox hmp v x (fun c hc => hf c (by simp only [lnamesL, List.mem_append]; exact .inl hc)) hc.1 (by simpa using hx)
  | v :: r, hf, hc, i + 1, x, hx => by
    simp only [lendL, closedAL, Bool.and_eq_true] at hc
    simpa [lendL] using lendL_ok h hbox hmp r (fun c hc => hf c (by simp only [lnamesL, List.mem_append]; exact .inr hc)) hc.2 i x (by simpa using hx)

theorem ownI_get : ∀ {rs : List SV} {i j e : Nat} {ks : List CK} {l : List SV}, ownI rs i = some (j, e, ks, l) → i ≤ j ∧ j - i < rs.length ∧ rs.getD (j - i) .any = .own e ks l
  | [], _, _, _, _, _, h => by cases h
  | v :: r, i, j, e, ks, l, h => by
    have recu : ownI r (i + 1) = some (j, e, ks, l) → i ≤ j ∧ j - i < (v :: r).length ∧ (v :: r).getD (j - i) .any = .own e ks l := fun h => by
      obtain ⟨h1, h2, h3⟩ := ownI_get h
      have e1 : j - i = (j - (i + 1)) + 1 := by omega
      refine ⟨by omega, by simp; omega, ?_⟩
      rw [e1]; simpa using h3
    cases v <;> first | exact recu h | skip
    simp only [ownI, Option.some.injEq, Prod.mk.injEq] at h
    obtain ⟨rfl, rfl, rfl, rfl⟩ := h
    simp
/-- With the slice put in its place. -/
theorem ownPut_cv {E : Env} {m : Nat → Option Chunk} {w : World} {x : Value} {r u : SV} {j : Option Nat} {e : Nat} {ks : List CK} {l : List SV} (hr : ownAt r = some (j, e, ks, l)) (h : CV E m w x (ownPut j .any r)) (hu : CV E m w (ownSel j x) u) : CV E m w x (ownPut j u r) := by
  cases j with
  | none => exact hu
  | some j =>
    cases r <;> simp only [ownAt, reduceCtorEq, Option.some.injEq, Prod.mk.injEq, false_and] at hr
    rename_i rs
    cases hi : ownI rs 0 with
    | none => simp only [hi] at hr; cases hr
    | some p =>
      obtain ⟨j', e', ks', l'⟩ := p
      simp only [hi, Option.some.injEq, Prod.mk.injEq] at hr
      obtain ⟨rfl, rfl, rfl, rfl⟩ := hr
      obtain ⟨_, h2, _⟩ := ownI_get hi
      simp only [ownPut] at h ⊢
      obtain ⟨xs, rfl, h3, h4⟩ := h.inv_tup
      refine .tup xs _ (by rw [h3]; simp) (fun i => ?_)
      have h5 := h4 i
      simp only [List.getD_eq_getElem?_getD, List.getElem?_set] at h5 ⊢
      by_cases hij : j' = i
      · subst hij
        rw [if_pos rfl, if_pos (by omega)]
        exact hu
      · rw [if_neg hij] at h5 ⊢; exact h5
theorem flatK_get : ∀ {ks : List CK}, flatK ks = true → ∀ j, j < ks.length → (∀ q, ks.getD j .other ≠ .sl q) ∧ ks.getD j .other ≠ .other
  | [], _, j, hj => by simp at hj
  | k :: r, h, 0, _ => by
    simp only [flatK, Bool.and_eq_true] at h
    cases k <;> simp at h ⊢
  | k :: r, h, j + 1, hj => by
    simp only [flatK, Bool.and_eq_true] at h
    simpa using flatK_get h.2 j (by simpa using hj)
theorem flat_conc {I I' : Nat → Prop} {w w' : World} {k : CK} {x : Value} {v : SV} (h1 : ∀ q, k ≠ .sl q) (h2 : k ≠ .other) (hk : kOk k v) (h : Conc I w x v) : Conc I' w' x v := by
  cases k with
  | int k => obtain ⟨n, rfl⟩ := hk; exact plainR_conc _ rfl _ h
  | bool => rcases hk with rfl | rfl | ⟨b, rfl⟩ <;> exact plainR_conc _ rfl _ h
  | str => obtain ⟨n, rfl⟩ := hk; exact plainR_conc _ rfl _ h
  | flt => obtain ⟨n, rfl⟩ := hk; exact plainR_conc _ rfl _ h
  | cpx => obtain ⟨n, m, rfl⟩ := hk; exact plainR_conc _ rfl _ h
  | sl q => exact absurd rfl (h1 q)
  | other => exact absurd rfl h2
theorem shOk_at {ks : List CK} {l : List SV} (hsh : ∀ v, v ∈ l → shOk ks v) {i j : Nat} (hi : i < l.length) (hj : j < ks.length) : kOk (ks.getD j .other) (elCell l i j) := by
  have hmem : l.getD i .any ∈ l := by rw [List.getD_eq_getElem?_getD, List.getElem?_eq_getElem hi]; exact List.getElem_mem hi
  exact (hsh _ hmem).2 j hj
theorem OwnR.flat {I I' : Nat → Prop} {n : Nat} {w : World} {x : Value} {e : Nat} {ks : List CK} {l : List SV} (hf : flatK ks = true) (hI : ∀ b, I' b → b < n) (h : OwnR I n w x e ks l) : OwnR I' n w x e ks l := by
  obtain ⟨h1, ⟨h2, xs, h3, h4⟩ | h2⟩ := h
  rotate_left
  · exact ⟨h1, .inr h2⟩
  refine ⟨h1, .inl ⟨fun b hb => ⟨(h2 b hb).1, (h2 b hb).2.1, fun hi => ?_⟩, xs, h3, fun i j hi hj => ?_⟩⟩
  · have := hI b hi
    have := (h2 b hb).1
    omega
  · obtain ⟨f1, f2⟩ := flatK_get hf j hj
    exact flat_conc f1 f2 (shOk_at h1 hi hj) (h4 i j hi hj)
/-- A slice is taken over. -/
theorem Rel.adopt (h : Rel P cx.nt B M I0 G w0 E s a w) {key e : Nat} {ks : List CK} {l : List SV} {x : Value} {n : Nat} (hfree : lkO s.mem key = none) (hn : B ≤ n) (hloc : ∀ k b, E.loc k = some b → b < n) (ho : OwnR E.I n w x e ks l) :
    Rel P cx.nt B M I0 G w0 (E.withRow key x) ⟨s.tm, (key, .row 0 e ks l) :: s.mem⟩ a w ∧ CV (E.withRow key x) (lkO ((key, Chunk.row 0 e ks l) :: s.mem)) w x (.osl key 0) ∧ ∀ y u, CV E (lkO s.mem) w y u → CV (E.withRow key x) (lkO ((key, Chunk.row 0 e ks l) :: s.mem)) w y u := by
  obtain ⟨o1, o2'⟩ := ho
  have o2 : ∀ b, oB x = some b → n ≤ b ∧ b < w.heap.size ∧ ¬ E.I b := fun b hb => by
    rcases o2' with ⟨o2, _⟩ | ⟨_, ad, rfl⟩
    · exact o2 b (oB_some hb)
    · cases hb
  have hlk : ∀ k, lkO ((key, Chunk.row 0 e ks l) :: s.mem) k = if key = k then some (.row 0 e ks l) else lkO s.mem k := fun k => lkO_cons ..
  have hm : ∀ y u, CV E (lkO s.mem) w y u → CV (E.withRow key x) (lkO ((key, Chunk.row 0 e ks l) :: s.mem)) w y u := fun y u hy => by
    refine CV.mono (E := E) (m := lkO s.mem) (w := w) (fun _ h => h) (fun _ _ => rfl) (fun k t cs b h1 h2 => ?_) (hq_of fun k b h1 h2 => ?_) (fun k v h1 => ?_) hy
    · have hk : ¬ key = k := fun e => by subst e; rw [hfree] at h1; cases h1
      exact ⟨⟨t, cs, by rw [hlk, if_neg hk]; exact h1⟩, by simp only [Env.withRow]; rw [if_neg (fun e => hk e.symm)]; exact h2⟩
    · have hk : ¬ key = k := fun e => by subst e; exact isPt_none h1 hfree
      exact ⟨by rw [hlk, if_neg hk], by simp only [Env.withRow]; rw [if_neg (fun e => hk e.symm)]; exact h2⟩
    · have hk : ¬ key = k := fun e => by subst e; rw [hfree] at h1; cases h1
      exact ⟨v, by rw [hlk, if_neg hk]; exact h1, Nat.le_refl _, fun _ => ⟨by simp only [Env.withRow]; rw [if_neg (fun e => hk e.symm)], fun b hb => by simp only [Env.withRow] at hb; rw [if_neg (fun e => hk e.symm)] at hb; exact hb⟩⟩
  refine ⟨⟨h.defers, h.tsize, h.fr, h.base, h.i0, h.inew, ?_, ?_, fun t => hm _ _ (h.tm t), ?_, h.ld, h.gv⟩, ?_, hm⟩
  · intro k b hb
    simp only [Env.withRow] at hb
    by_cases hk : k = key
    · rw [if_pos hk] at hb
      obtain ⟨p1, p2, p3⟩ := o2 b hb
      exact ⟨p2, p3, .inl (by omega)⟩
    · rw [if_neg hk] at hb
      obtain ⟨p1, p2, p3⟩ := h.loc k b hb
      refine ⟨p1, p2, ?_⟩
      show _ ∨ _ ∨ (_ ∧ verOf (lkO ((key, Chunk.row 0 e ks l) :: s.mem) k) = none)
      rw [hlk, if_neg (fun e => hk e.symm)]; exact p3
  · intro k k' b hb hb'
    simp only [Env.withRow] at hb hb'
    by_cases hk : k = key <;> by_cases hk' : k' = key
    · rw [hk, hk']
    · rw [if_pos hk] at hb
      rw [if_neg hk'] at hb'
      have := (o2 b hb).1
      have := hloc k' b hb'
      omega
    · rw [if_neg hk] at hb
      rw [if_pos hk'] at hb'
      have := (o2 b hb').1
      have := hloc k b hb
      omega
    · rw [if_neg hk] at hb
      rw [if_neg hk'] at hb'
      exact h.inj k k' b hb hb'
  · intro k
    show ChR (E.withRow key x) (lkO ((key, Chunk.row 0 e ks l) :: s.mem)) w k (lkO ((key, Chunk.row 0 e ks l) :: s.mem) k)
    rw [hlk]
    by_cases hk : key = k
    · subst hk
      rw [if_pos rfl]
      rcases o2' with ⟨_, xs, o3, o4⟩ | ⟨q, ad, rfl⟩
      · exact rowR_own o1 o3 o4
      · exact rowR_zero q
    · rw [if_neg hk]
      have hk' : ¬ k = key := fun e => hk e.symm
      exact ChR.mono (E := E) (m := lkO s.mem) (w := w) (fun _ h => h) (fun _ _ => rfl) hm (by simp only [Env.withRow]; rw [if_neg hk']) (by simp only [Env.withRow]; rw [if_neg hk']) (fun _ _ => rfl) (h.ch k)
  · exact .osl _ key 0 0 (by rw [hlk, if_pos rfl]; rfl) (Nat.le_refl _) (fun _ => by simp [Env.withRow])
theorem Rel.setT {tm : List (Nat × SV)} {mem : List (Nat × Chunk)} {d : Nat} {u v : SV} (h : Rel P cx.nt B M I0 G w0 E ⟨(d, u) :: tm, mem⟩ a w) (hv : CV E (lkO mem) w (a.tmps.getD d undef) v) : Rel P cx.nt B M I0 G w0 E ⟨(d, v) :: tm, mem⟩ a w := by
  refine ⟨h.defers, h.tsize, h.fr, h.base, h.i0, h.inew, h.loc, h.inj, fun t => ?_, h.ch, h.ld, h.gv⟩
  have ht := h.tm t
  show CV E (lkO mem) w _ (lk .any ((d, v) :: tm) t)
  replace ht : CV E (lkO mem) w (a.tmps.getD t undef) (lk .any ((d, u) :: tm) t) := ht
  rw [lk_cons] at ht ⊢
  by_cases e : d = t
  · subst e; rw [if_pos rfl]; exact hv
  · rw [if_neg e] at ht ⊢; exact ht

theorem sound_call (hP : CxOk P cx) {c : Call} {f : Operand} (ho : o.op = .call c) (hc : c.callee = .value f) : Sound cx P o := by
  intro B M I0 G w0 E s a w K Q h hd hob hK
  have e : opx cx s.mem (ev s.tm) o = opE cx s.mem (ev s.tm) o.dst (.call c) := by simp [opx, ho]
  rw [e] at hob hK
  simp only [opE, hc] at hob hK
  have hf := h.eval f
  cases hv : ev s.tm f <;> simp only [hv] at hob hK <;> try exact hob.elim
  rename_i fn caps
  rw [hv] at hf
  obtain ⟨xs, e1, e2, e3⟩ := hf.inv_fn
  unfold callOf at hob hK
  cases hcon : lkO cx.fn fn with
  | none => simp only [hcon] at hob; exact hob.elim
  | some con =>
    simp only [hcon] at hob hK
    generalize hargs : (c.args.toList.map (ev s.tm)) ++ caps = args at hob hK
    cases hcl : closedAL (lendL s.mem args) with
    | false => simp only [hcl] at hob; exact hob.elim
    | true =>
      simp only [hcl] at hob hK
      obtain ⟨fnd, hf1, hf2, hf3⟩ := hP.fb fn con hcon
      have hob' : obH (con.pre (lendL s.mem args)) := by
        cases how : ownAt (con.res (lendL s.mem args)) with
        | none => simp only [how] at hob; cases hpl : plainR (con.res (lendL s.mem args)) <;> simpa only [hpl] using hob
        | some p =>
          obtain ⟨j, e, ks, l⟩ := p
          simp only [how] at hob
          cases hds : o.dst with
          | none => simp only [hds] at hob; exact hob.elim
          | some d =>
            simp only [hds] at hob
            cases hmk : lkO s.mem (ownKey cx d j) with
            | some _ => simp only [hmk] at hob; exact hob.elim
            | none =>
              simp only [hmk] at hob
              split at hob <;> exact hob
      obtain ⟨_, hok⟩ := hP.fn fn con hcon _ hcl hob'
      have hval : ∀ i, CV E (lkO s.mem) w (((c.args.toList.map a.eval) ++ xs.toList).getD i undef) (args.getD i .any) := by
        rw [← hargs]
        exact append_cv (by simp) (argsEval _ _ _ h.eval) (fun i => by simpa [List.getD_eq_getElem?_getD, Array.getD_eq_getD_getElem?] using e3 i)
      -- the slices of the function's own that go with the call
      obtain ⟨E', s', q1, q2, q3, q4, q5⟩ := h.freeze (lnamesL s.mem args) s.mem (fun _ _ => .inl rfl)
      have hfz := frozen_of q3
      have hval' : ∀ i, CV E' (lkO s'.mem) w (((c.args.toList.map a.eval) ++ xs.toList).getD i undef) (args.getD i .any) := by
        rw [← hargs]
        have hf' := q1.eval f
        rw [q2, hv] at hf'
        obtain ⟨xs', e1', e2', e3'⟩ := hf'.inv_fn
        rw [e1] at e1'
        cases e1'
        refine append_cv (by simp) (fun i => ?_) (fun i => by simpa [List.getD_eq_getElem?_getD, Array.getD_eq_getD_getElem?] using e3' i)
        have := argsEval (E := E') (w := w) (m := lkO s'.mem) c.args.toList (ev s'.tm) a.eval q1.eval i
        rw [q2] at this
        exact this
      have hcon' : ∀ i, ArgOK E'.I w (((c.args.toList.map a.eval) ++ xs.toList).getD i undef) ((lendL s.mem args).getD i .any) := fun i =>
        lendL_ok q1 (fun c t cs h1 => by rw [q3, freezes_none (fun v e ks l h => by rw [h1] at h; cases h) _]; exact h1) (fun c t k e l ck h1 => by rw [q3, freezes_none (fun v e ks l h => by rw [h1] at h; cases h) _]; exact h1) args hfz hcl i _ (hval' i)
      have hcall := hok E'.I w ((c.args.map a.eval) ++ xs) (h.ld w h.fr) (fun b hb => (q1.inew b hb).1) (by rw [lendL_length, ← hargs]; simp; omega) (fun i => by
        have := hcon' i
        have e4 : ((c.args.map a.eval) ++ xs).getD i undef = ((c.args.toList.map a.eval) ++ xs.toList).getD i undef := by
          rw [Array.getD_eq_getD_getElem?, List.getD_eq_getElem?_getD, ← Array.getElem?_toList, Array.toList_append, Array.toList_map]
        rw [e4]; exact this)
      have hrun : (execOp a.eval o).run P w = .ok (.enter fn ((c.args.map a.eval) ++ xs)) w := by
        simp only [execOp, ho, _root_.Go.resolve, hc, Sem.run_bind, e1, Deferred.ofValue, Sem.run_pure, Result.andThen_ok, invoke, callFunc, run_program, hf1, hf3, hf2, Bool.false_eq_true, if_false, Array.empty_append]
      unfold Oper.wp
      rw [hrun]
      refine hcall.mono ?_
      rintro ed w' ⟨x, I', rfl, hfr, hI1, hI2, hx⟩
      cases how : ownAt (con.res (lendL s.mem args)) with
      | some p =>
        obtain ⟨j, e, ks, l⟩ := p
        simp only [how] at hob hK
        cases hds : o.dst with
        | none => simp only [hds] at hob; exact hob.elim
        | some d =>
        simp only [hds] at hob hK
        cases hmk : lkO s.mem (ownKey cx d j) with
        | some _ => simp only [hmk] at hob; exact hob.elim
        | none =>
        simp only [hmk] at hob hK
        have hdl : d < a.tmps.size := by rw [h.tsize]; exact dOk_lt hd d hds
        rcases hx with hx | ⟨j', e', ks', l', r1, r2, r3⟩
        · exact absurd hx (by
            intro hx
            generalize con.res (lendL s.mem args) = r at how hx
            cases r <;> simp only [ownAt, reduceCtorEq, Option.some.injEq, Prod.mk.injEq] at how
            · rename_i rs
              cases hi : ownI rs 0 with
              | none => simp only [hi] at how; cases how
              | some p =>
                obtain ⟨j1, e1, ks1, l1⟩ := p
                obtain ⟨_, h2, h3⟩ := ownI_get hi
                cases hx with
                | tup xs _ hs hc =>
                  have := hc (j1 - 0)
                  rw [h3] at this
                  generalize xs.getD (j1 - 0) undef = y at this
                  cases this
            · cases hx)
        · rw [how] at r1
          simp only [Option.some.injEq, Prod.mk.injEq] at r1
          obtain ⟨rfl, rfl, rfl, rfl⟩ := r1
          cases hfp : (flatK ks && plainR (ownPut j .any (con.res (lendL s.mem args)))) with
          | true =>
            simp only [hfp] at hK
            simp only [Bool.and_eq_true] at hfp
            have h1 := h.called hfr (fun _ h => h) (fun b hb => ⟨Nat.lt_of_lt_of_le (h.inew b hb).1 hfr.size, .inl hb⟩) (plainR_conc _ hfp.2 _ r2) (d := some d) (fun k hk => dOk_lt hd k (by rw [hds]; exact hk))
            obtain ⟨g1, g2, g3⟩ := h1.adopt (key := ownKey cx d j) (n := w.heap.size) hmk h.base (fun k b hb => (h.loc k b hb).1) (r3.flat hfp.1 (fun b hb => (h.inew b hb).1))
            have ex : (a.put (some d) x).tmps.getD d undef = x := by rw [put_getD hdl, if_pos rfl]
            have h0 : CV E (lkO s.mem) w' x (ownPut j .any (con.res (lendL s.mem args))) := .conc _ _ (plainR_conc _ hfp.2 _ r2)
            have := g1.setT (v := ownPut j (.osl (ownKey cx d j) 0) (con.res (lendL s.mem args))) (by rw [ex]; exact ownPut_cv how (g3 _ _ h0) g2)
            exact hK _ _ _ this
          | false =>
            simp only [hfp] at hK
            have hmk' : lkO s'.mem (ownKey cx d j) = none := by
              rw [q3, freezes_none (fun v e ks l h => by rw [hmk] at h; cases h) _]; exact hmk
            have h1 := q1.called hfr hI1 hI2 r2 (d := some d) (fun k hk => dOk_lt hd k (by rw [hds]; exact hk))
            obtain ⟨g1, g2, g3⟩ := h1.adopt (key := ownKey cx d j) (n := w.heap.size) hmk' q1.base (fun k b hb => (q1.loc k b hb).1) r3
            have ex : (a.put (some d) x).tmps.getD d undef = x := by rw [put_getD hdl, if_pos rfl]
            have h0 : CV { E' with I := I' } (lkO s'.mem) w' x (ownPut j .any (con.res (lendL s.mem args))) := .conc _ _ r2
            have := g1.setT (v := ownPut j (.osl (ownKey cx d j) 0) (con.res (lendL s.mem args))) (by rw [ex]; exact ownPut_cv how (g3 _ _ h0) g2)
            refine hK _ _ _ (this.congr (fun t => ?_) (fun c => ?_))
            · simp only [upd, q2]
            · simp only [upd]
              rw [List.cons_append, lkO_cons, lkO_cons, lkO_append]
              split
              · rfl
              · show _ = lkO ([] ++ s'.mem) c
                rw [List.nil_append, q3]
                cases lkO (freezes s.mem (lnamesL s.mem args)) c <;> rfl
      | none =>
      simp only [how] at hob hK
      replace hx := hx.conc how
      cases hpl : plainR (con.res (lendL s.mem args)) with
      | true =>
        simp only [hpl] at hK
        exact hK E _ _ (h.called hfr (fun _ h => h) (fun b hb => ⟨Nat.lt_of_lt_of_le (h.inew b hb).1 hfr.size, .inl hb⟩) (plainR_conc _ hpl _ hx) (dOk_lt hd))
      | false =>
      simp only [hpl] at hK
      obtain ⟨c1, c2⟩ := upd_congr (d := o.dst) (v := con.res (lendL s.mem args)) q2 q3
      exact hK { E' with I := I' } _ _ ((q1.called hfr hI1 hI2 hx (dOk_lt hd)).congr c1 c2)
end
end Go.Rx

/- The framework, part 12: the other operations. -/
namespace Go.Rx
set_option linter.unusedSectionVars false
open Go.RowKit

section
variable {cx : Cx} {P : Program} [Laid P] {B : Nat} {M I0 : Nat → Prop} {G : Nat → Value} {w0 : World} {E : Env} {s : St} {a : Act} {w : World} {o : Oper} {K : Act → World → Prop} {Q : Exit → Act → World → Prop}

theorem sound_extract {y : Operand} {i : Nat} (ho : o.op = .extract y i) : Sound cx P o := by
  intro B M I0 G w0 E s a w K Q h hd hob hK
  have e : opx cx s.mem (ev s.tm) o = opE cx s.mem (ev s.tm) o.dst (.extract y i) := by simp [opx, ho]
  rw [e] at hob hK
  simp only [opE] at hob hK
  have hy := h.eval y
  cases hv : ev s.tm y <;> simp only [hv] at hob hK <;> try exact hob.elim
  rename_i vs
  rw [hv] at hy
  cases hi : vs[i]? with
  | none => simp only [hi] at hob; exact hob.elim
  | some v =>
    simp only [hi] at hK
    obtain ⟨xs, e1, e2, e3⟩ := hy.inv_tup
    have hlt : i < xs.size := by have := (List.getElem?_eq_some_iff.1 hi).1; omega
    refine op_val h hd (x := xs.getD i undef) ?_ (by have := e3 i; rw [List.getD_eq_getElem?_getD, hi] at this; exact this) hK
    simp [execOp, ho, Instr.extract, e1, Array.getElem?_eq_getElem hlt, Array.getD_eq_getD_getElem?]

theorem sound_unOp {op : UnOp} {t : Nat} {y : Operand} (ho : o.op = .unOp op t y) : Sound cx P o := by
  intro B M I0 G w0 E s a w K Q h hd hob hK
  have e : opx cx s.mem (ev s.tm) o = opE cx s.mem (ev s.tm) o.dst (.unOp op t y) := by simp [opx, ho]
  rw [e] at hob hK
  simp only [opE] at hob hK
  have hy := h.eval y
  split at hob
  · rename_i hv
    rw [hv] at hy hK
    exact op_val h hd (x := .bool false) (by simp [execOp, ho, hy.inv_tt, Op.unary]) (.conc _ _ .ff) hK
  · rename_i hv
    rw [hv] at hy hK
    exact op_val h hd (x := .bool true) (by simp [execOp, ho, hy.inv_ff, Op.unary]) (.conc _ _ .tt) hK
  · rename_i b hv
    rw [hv] at hy hK
    exact op_val h hd (x := .bool (!b)) (by simp [execOp, ho, hy.inv_bool, Op.unary]) (.conc _ _ (.bool _)) hK
  · rename_i k n hv
    rw [hv] at hy hK
    exact op_val h hd (x := .int k (k.wrap (0 - n))) (by simp [execOp, ho, hy.inv_int, Op.unary, Op.intArith]) (.conc _ _ (.int _ _)) hK
  · rename_i b hv
    rw [hv] at hy hK
    exact op_val h hd (x := .float .f64 (fN b)) (by simp [execOp, ho, hy.inv_flt, Op.unary, fN]) (.conc _ _ (.flt _)) hK
  · rename_i a b hv
    rw [hv] at hy hK
    exact op_val h hd (x := .complex .f64 (fN a) (fN b)) (by simp [execOp, ho, hy.inv_cpx, Op.unary, fN]) (.conc _ _ (.cpx _ _)) hK
  · exact hob.elim

/-- A slice, whoever owns it. -/
theorem rowOf_len {m : List (Nat × Chunk)} {x : Value} {v : SV} {ks : List CK} {l : List SV} {rd : List Nat} (hch : ∀ c, ChR E (lkO m) w c (lkO m c)) (h : CV E (lkO m) w x v) (hr : rowOf m v = some (ks, l, rd)) : ∃ ad cap, x = .slice ad l.length cap := by
  cases v <;> simp only [rowOf, reduceCtorEq, Option.some.injEq, Prod.mk.injEq] at hr
  · rename_i c ver
    obtain ⟨v', e1, e2⟩ := h.inv_osl
    have hc := hch c
    cases hm : lkO m c with
    | none => rw [hm] at hr; simp at hr
    | some ch =>
      rw [hm] at hr hc e1
      cases ch with
      | box => simp at hr
      | gh => simp at hr
      | mp => simp at hr
      | it => simp at hr
      | row v2 e0 ks0 l0 =>
        cases hb : Nat.beq v2 ver with
        | false => simp [hb] at hr
        | true =>
          simp only [hb, Option.some.injEq, Prod.mk.injEq] at hr
          obtain ⟨rfl, rfl, rfl⟩ := hr
          simp only [verOf, Option.some.injEq] at e1
          rw [e2 (by have := Nat.eq_of_beq_eq_true hb; omega)]
          exact RowR.isSlice hc
      | froz v2 ks0 l0 =>
        cases hb : Nat.beq v2 ver with
        | false => simp [hb] at hr
        | true =>
          simp only [hb, Option.some.injEq, Prod.mk.injEq] at hr
          obtain ⟨rfl, rfl, rfl⟩ := hr
          simp only [verOf, Option.some.injEq] at e1
          rw [e2 (by have := Nat.eq_of_beq_eq_true hb; omega)]
          obtain ⟨ad, cap, h1, _⟩ := sl_len hc
          exact ⟨ad, cap, h1⟩
  · obtain ⟨rfl, rfl, rfl⟩ := hr
    obtain ⟨ad, cap, h1, _⟩ := sl_len h.inv_sl
    exact ⟨ad, cap, h1⟩
  · obtain ⟨rfl, rfl, rfl⟩ := hr
    exact ⟨none, 0, h.inv_nilsl⟩
  · obtain ⟨rfl, rfl, rfl⟩ := hr
    obtain ⟨ad, e1, _⟩ := h.inv_fsl
    exact ⟨ad, _, e1⟩

/-- .. and its cells. -/
theorem rowOf_cells {m : List (Nat × Chunk)} {x : Value} {v : SV} {ks : List CK} {l : List SV} {rd : List Nat} (hch : ∀ c, ChR E (lkO m) w c (lkO m c)) (h : CV E (lkO m) w x v) (hr : rowOf m v = some (ks, l, rd)) :
    (∀ e, e ∈ l → shOk ks e) ∧ ((x = .slice none 0 0 ∧ l = []) ∨ (l = [] ∧ ∃ ad cap, x = .slice ad 0 cap) ∨ ∃ (b off cap : Nat) (f : Nat → Nat → Value), x = .slice (some ⟨b, off, none⟩) l.length cap ∧
      ∀ i j, i < l.length → j < ks.length → w.cell? ⟨b, off + i * ks.length + j, none⟩ = some (f i j) ∧ Conc E.I w (f i j) (elCell l i j)) := by
  have conc : ∀ {x : Value}, Conc E.I w x (.sl ks l) → (∀ e, e ∈ l → shOk ks e) ∧ ((x = .slice none 0 0 ∧ l = []) ∨ (l = [] ∧ ∃ ad cap, x = .slice ad 0 cap) ∨ ∃ (b off cap : Nat) (f : Nat → Nat → Value), x = .slice (some ⟨b, off, none⟩) l.length cap ∧
      ∀ i j, i < l.length → j < ks.length → w.cell? ⟨b, off + i * ks.length + j, none⟩ = some (f i j) ∧ Conc E.I w (f i j) (elCell l i j)) := by
    intro x hx
    cases hx with
    | sl0 ad cap => exact ⟨fun e he => (by cases he), .inr (.inl ⟨rfl, ad, cap, rfl⟩)⟩
    | sl b off cap _ _ f hb hc hsh hx hxc => exact ⟨hsh, .inr (.inr ⟨b, off, cap, f, rfl, fun i j hi hj => ⟨hx i j hi hj, hxc i j hi hj⟩⟩)⟩
  cases v <;> simp only [rowOf, reduceCtorEq, Option.some.injEq, Prod.mk.injEq] at hr
  · rename_i c ver
    obtain ⟨v', e1, e2⟩ := h.inv_osl
    have hc := hch c
    cases hm : lkO m c with
    | none => rw [hm] at hr; simp at hr
    | some ch =>
      rw [hm] at hr hc e1
      cases ch with
      | box => simp at hr
      | gh => simp at hr
      | mp => simp at hr
      | it => simp at hr
      | row v2 e0 ks0 l0 =>
        cases hb : Nat.beq v2 ver with
        | false => simp [hb] at hr
        | true =>
          simp only [hb, Option.some.injEq, Prod.mk.injEq] at hr
          obtain ⟨rfl, rfl, rfl⟩ := hr
          simp only [verOf, Option.some.injEq] at e1
          rw [e2 (by have := Nat.eq_of_beq_eq_true hb; omega)]
          obtain ⟨h1, ⟨h2, xs, ho, h4⟩ | ⟨q1, _, ad, q2⟩⟩ := hc
          rotate_left
          · exact ⟨h1, .inr (.inl ⟨q1, ad, 0, q2⟩)⟩
          refine ⟨h1, ?_⟩
          rcases ho.2 with ⟨q1, q2⟩ | ⟨g, cap, cur, q1, hg, hh, hn, hmx, hs, ht⟩
          · exact .inl ⟨q1, List.eq_nil_of_length_eq_zero q2⟩
          · refine .inr (.inr ⟨g, 0, cap, fun i j => xs.getD (i * ks0.length + j) undef, q1, fun i j hi hj => ⟨?_, h4 i j hi hj⟩⟩)
            have hlt : i * ks0.length + j < l0.length * ks0.length := by
              have : (i + 1) * ks0.length ≤ l0.length * ks0.length := Nat.mul_le_mul_right _ hi
              rw [Nat.add_mul, Nat.one_mul] at this
              omega
            have hlt2 : i * ks0.length + j < cur.size := by
              rw [hs]
              exact Nat.lt_of_lt_of_le hlt (Nat.mul_le_mul_right _ hn)
            rw [Nat.zero_add]
            simp only [World.cell?, hh]
            rw [if_neg (by simp), ← ht, Array.getElem?_eq_getElem hlt2]
            simp [List.getD_eq_getElem?_getD, hlt, hlt2]
      | froz v2 ks0 l0 =>
        cases hb : Nat.beq v2 ver with
        | false => simp [hb] at hr
        | true =>
          simp only [hb, Option.some.injEq, Prod.mk.injEq] at hr
          obtain ⟨rfl, rfl, rfl⟩ := hr
          simp only [verOf, Option.some.injEq] at e1
          rw [e2 (by have := Nat.eq_of_beq_eq_true hb; omega)]
          exact conc hc
  · obtain ⟨rfl, rfl, rfl⟩ := hr
    exact conc h.inv_sl
  · obtain ⟨rfl, rfl, rfl⟩ := hr
    exact ⟨fun e he => (by cases he), .inl ⟨h.inv_nilsl, rfl⟩⟩
  · obtain ⟨rfl, rfl, rfl⟩ := hr
    obtain ⟨ad, e1, e2⟩ := h.inv_fsl
    exact conc e2

/-- The cells of a slice, one behind the other. -/
def cellList (n len : Nat) (f : Nat → Nat → Value) : List Value := (List.range (len * n)).map fun q => f (q / n) (q % n)

theorem cellList_getD {n len : Nat} {f : Nat → Nat → Value} {i j : Nat} (hi : i < len) (hj : j < n) : (cellList n len f).getD (i * n + j) undef = f i j := by
  have hlt : i * n + j < len * n := by
    have : (i + 1) * n ≤ len * n := Nat.mul_le_mul_right _ hi
    rw [Nat.add_mul, Nat.one_mul] at this
    omega
  have h1 : (i * n + j) / n = i := by
    rw [Nat.mul_comm, Nat.mul_add_div (by omega), Nat.div_eq_of_lt hj, Nat.add_zero]
  have h2 : (i * n + j) % n = j := by
    rw [Nat.mul_comm, Nat.mul_add_mod, Nat.mod_eq_of_lt hj]
  simp only [cellList, List.getD_eq_getElem?_getD, List.getElem?_map, List.getElem?_range hlt, Option.map_some, Option.getD_some, h1, h2]
theorem cellList_length {n len : Nat} {f : Nat → Nat → Value} : (cellList n len f).length = len * n := by simp [cellList]
theorem cellList_get {n len : Nat} {f : Nat → Nat → Value} {q : Nat} {v : Value} (h : (cellList n len f)[q]? = some v) : q / n < len ∧ q % n < n ∧ v = f (q / n) (q % n) ∧ q = q / n * n + q % n := by
  have hlt : q < len * n := by have := (List.getElem?_eq_some_iff.1 h).1; rwa [cellList_length] at this
  have hn : 0 < n := by
    rcases Nat.eq_zero_or_pos n with h0 | h0
    · subst h0; simp at hlt
    · exact h0
  refine ⟨Nat.div_lt_of_lt_mul (by rwa [Nat.mul_comm]), Nat.mod_lt _ hn, ?_, ?_⟩
  · simp only [cellList, List.getElem?_map, List.getElem?_range hlt, Option.map_some, Option.some.injEq] at h
    exact h.symm
  · rw [Nat.mul_comm]; exact (Nat.div_add_mod q n).symm

theorem kOk_one {I : Nat → Prop} {x : Value} {v : SV} {k : CK} (hk : k ≠ .other) (h : kOk k v) (hx : Conc I w x v) : x.oneCell' = true := by
  cases k with
  | int k => obtain ⟨n, rfl⟩ := h; cases hx; rfl
  | bool => rcases h with rfl | rfl | ⟨b, rfl⟩ <;> cases hx <;> rfl
  | str => obtain ⟨s, rfl⟩ := h; cases hx; rfl
  | flt => obtain ⟨s, rfl⟩ := h; cases hx; rfl
  | cpx => obtain ⟨s, t, rfl⟩ := h; cases hx; rfl
  | sl ks =>
    rcases h with rfl | ⟨l, rfl⟩
    · cases hx; rfl
    · cases hx <;> rfl
  | other => exact (hk rfl).elim

theorem plainK_get : ∀ {ks : List CK}, plainK ks = true → ∀ j, j < ks.length → ks.getD j .other ≠ .other
  | [], _, j, hj => by simp at hj
  | k :: r, h, 0, _ => by cases k <;> simp [plainK] at h ⊢
  | k :: r, h, j + 1, hj => by
    have : plainK r = true := by cases k <;> simp_all [plainK]
    simpa using plainK_get this j (by simpa using hj)

theorem builtin_run {c : Call} {b : Builtin} (ho : o.op = .call c) (hc : c.callee = .builtin b) (w : World) : ∃ cs, (execOp a.eval o).run P w = (builtin b c.argTypes o.type cs (c.args.map a.eval)).run P w := by
  simp only [execOp, ho, _root_.Go.resolve, hc, Sem.run_bind, Sem.run_pure, Result.andThen_ok, invoke]
  exact ⟨_, rfl⟩

theorem args_one {m : Nat → Option Chunk} {xs : Array Operand} {g : Operand → SV} {e : Operand → Value} (h : ∀ x, CV E m w (e x) (g x)) {v : SV} (hv : xs.toList.map g = [v]) : ∃ x, xs.map e = #[x] ∧ CV E m w x v := by
  obtain ⟨l⟩ := xs
  match l, hv with
  | [x], hv => simp only [List.map_cons, List.map_nil, List.cons.injEq, and_true] at hv; exact ⟨e x, by simp, hv ▸ h x⟩
  | [], hv => simp at hv
  | _ :: _ :: _, hv => simp at hv
theorem args_two {m : Nat → Option Chunk} {xs : Array Operand} {g : Operand → SV} {e : Operand → Value} (h : ∀ x, CV E m w (e x) (g x)) {u v : SV} (hv : xs.toList.map g = [u, v]) : ∃ x y, xs.map e = #[x, y] ∧ CV E m w x u ∧ CV E m w y v := by
  obtain ⟨l⟩ := xs
  match l, hv with
  | [x, y], hv => simp only [List.map_cons, List.map_nil, List.cons.injEq, and_true] at hv; exact ⟨e x, e y, by simp, hv.1 ▸ h x, hv.2 ▸ h y⟩
  | [], hv => simp at hv
  | [_], hv => simp at hv
  | _ :: _ :: _ :: _, hv => simp at hv

theorem list_one {α : Type} {xs : Array α} {v : α} (h : xs.toList = [v]) : xs = #[v] := by
  obtain ⟨l⟩ := xs; simp at h; rw [h]
theorem list_two {α : Type} {xs : Array α} {u v : α} (h : xs.toList = [u, v]) : xs = #[u, v] := by
  obtain ⟨l⟩ := xs; simp at h; rw [h]

theorem sound_len (hP : CxOk P cx) {c : Call} (ho : o.op = .call c) (hc : c.callee = .builtin .len) : Sound cx P o := by
  intro B M I0 G w0 E s a w K Q h hd hob hK
  have e : opx cx s.mem (ev s.tm) o = builtinOf cx s.mem .len c.argTypes.toList o.dst (c.args.toList.map (ev s.tm)) := by simp [opx, ho, opE, hc]
  rw [e] at hob hK
  generalize hargs : c.args.toList.map (ev s.tm) = args at hob hK
  generalize hts : c.argTypes.toList = ts at hob hK
  simp only [builtinOf] at hob hK
  match ts, args with
  | [], _ => exact hob.elim
  | [_], [] => exact hob.elim
  | [_], _ :: _ :: _ => exact hob.elim
  | _ :: _ :: _, _ => exact hob.elim
  | [t], [v] =>
    obtain ⟨x, e1, hx⟩ := args_one h.eval hargs
    have e2 := list_one hts
    simp only [lenOf] at hob hK
    cases ht : tyOf cx t with
    | none => rw [ht] at hob; exact hob.elim
    | some L =>
      obtain ⟨d, h1, h2⟩ := (tyRun hP ht).desc
      simp only [ht] at hob hK
      cases hk : L.k <;> simp only [hk] at hob hK h2 <;> try exact hob.elim
      · have := TkOk_str h2
        subst this
        cases v <;> simp only at hob hK <;> try exact hob.elim
        rename_i l
        obtain ⟨b, e3, e4⟩ := hx.inv_str
        refine op_val h hd (x := .int .i64 l.length) ?_ (.conc _ _ (.int _ _)) hK
        obtain ⟨cs, e5⟩ := builtin_run (P := P) (a := a) ho hc w
        rw [e5]
        simp [e1, e2, e3, builtin, Builtin.len_, run_underlying h1, goInt, ← e4]
      · have := TkOk_sl h2
        subst this
        cases hr : rowOf s.mem v with
        | none => simp only [hr] at hob; exact hob.elim
        | some r =>
          obtain ⟨ks, l, rd⟩ := r
          simp only [hr] at hob hK
          obtain ⟨ad, cap, e3⟩ := rowOf_len h.ch hx hr
          refine op_val h hd (x := .int .i64 l.length) ?_ (.conc _ _ (.int _ _)) hK
          obtain ⟨cs, e5⟩ := builtin_run (P := P) (a := a) ho hc w
          rw [e5]
          simp [e1, e2, e3, builtin, Builtin.len_, run_underlying h1, goInt]

theorem sound_min {c : Call} (ho : o.op = .call c) (hc : c.callee = .builtin .min) : Sound cx P o := by
  intro B M I0 G w0 E s a w K Q h hd hob hK
  have e : opx cx s.mem (ev s.tm) o = builtinOf cx s.mem .min c.argTypes.toList o.dst (c.args.toList.map (ev s.tm)) := by simp [opx, ho, opE, hc]
  rw [e] at hob hK
  generalize hargs : c.args.toList.map (ev s.tm) = args at hob hK
  simp only [builtinOf] at hob hK
  match args with
  | [] => exact hob.elim
  | [_] => exact hob.elim
  | _ :: _ :: _ :: _ => exact hob.elim
  | [u, v] =>
    obtain ⟨x, y, e1, hx, hy⟩ := args_two h.eval hargs
    simp only [minOf] at hob hK
    split at hob <;> try exact hob.elim
    rename_i k a1 k' a2
    simp only at hK
    refine op_val h hd (x := .int k (minV a1 a2)) ?_ (.conc _ _ (.int _ _)) hK
    obtain ⟨cs, e5⟩ := builtin_run (P := P) (a := a) ho hc w
    rw [e5]
    simp [e1, hx.inv_int, hy.inv_int, builtin, Builtin.min_, Builtin.min2, minV]

theorem sound_max {c : Call} (ho : o.op = .call c) (hc : c.callee = .builtin .max) : Sound cx P o := by
  intro B M I0 G w0 E s a w K Q h hd hob hK
  have e : opx cx s.mem (ev s.tm) o = builtinOf cx s.mem .max c.argTypes.toList o.dst (c.args.toList.map (ev s.tm)) := by simp [opx, ho, opE, hc]
  rw [e] at hob hK
  generalize hargs : c.args.toList.map (ev s.tm) = args at hob hK
  simp only [builtinOf] at hob hK
  match args with
  | [] => exact hob.elim
  | [_] => exact hob.elim
  | _ :: _ :: _ :: _ => exact hob.elim
  | [u, v] =>
    obtain ⟨x, y, e1, hx, hy⟩ := args_two h.eval hargs
    simp only [maxOf] at hob hK
    split at hob <;> try exact hob.elim
    rename_i k a1 k' a2
    simp only at hK
    refine op_val h hd (x := .int k (maxV a1 a2)) ?_ (.conc _ _ (.int _ _)) hK
    obtain ⟨cs, e5⟩ := builtin_run (P := P) (a := a) ho hc w
    rw [e5]
    simp [e1, hx.inv_int, hy.inv_int, builtin, Builtin.max_, Builtin.max2, maxV]

theorem sound_complex {c : Call} (ho : o.op = .call c) (hc : c.callee = .builtin .complex) : Sound cx P o := by
  intro B M I0 G w0 E s a w K Q h hd hob hK
  have e : opx cx s.mem (ev s.tm) o = builtinOf cx s.mem .complex c.argTypes.toList o.dst (c.args.toList.map (ev s.tm)) := by simp [opx, ho, opE, hc]
  rw [e] at hob hK
  generalize hargs : c.args.toList.map (ev s.tm) = args at hob hK
  simp only [builtinOf] at hob hK
  match args with
  | [] => exact hob.elim
  | [_] => exact hob.elim
  | _ :: _ :: _ :: _ => exact hob.elim
  | [u, v] =>
    obtain ⟨x, y, e1, hx, hy⟩ := args_two h.eval hargs
    simp only [cpxOf] at hob hK
    split at hob <;> try exact hob.elim
    rename_i a1 a2
    simp only at hK
    refine op_val h hd (x := .complex .f64 a1 a2) ?_ (.conc _ _ (.cpx _ _)) hK
    obtain ⟨cs, e5⟩ := builtin_run (P := P) (a := a) ho hc w
    rw [e5]
    simp [e1, hx.inv_flt, hy.inv_flt, builtin, run_complex]
theorem sound_real {c : Call} (ho : o.op = .call c) (hc : c.callee = .builtin .real) : Sound cx P o := by
  intro B M I0 G w0 E s a w K Q h hd hob hK
  have e : opx cx s.mem (ev s.tm) o = builtinOf cx s.mem .real c.argTypes.toList o.dst (c.args.toList.map (ev s.tm)) := by simp [opx, ho, opE, hc]
  rw [e] at hob hK
  generalize hargs : c.args.toList.map (ev s.tm) = args at hob hK
  simp only [builtinOf] at hob hK
  match args with
  | [] => exact hob.elim
  | _ :: _ :: _ => exact hob.elim
  | [u] =>
    obtain ⟨x, e1, hx⟩ := args_one h.eval hargs
    simp only [reOf] at hob hK
    split at hob <;> try exact hob.elim
    rename_i a1 a2
    simp only at hK
    refine op_val h hd (x := .float .f64 a1) ?_ (.conc _ _ (.flt _)) hK
    obtain ⟨cs, e5⟩ := builtin_run (P := P) (a := a) ho hc w
    rw [e5]
    simp [e1, hx.inv_cpx, builtin, run_real]
theorem sound_imag {c : Call} (ho : o.op = .call c) (hc : c.callee = .builtin .imag) : Sound cx P o := by
  intro B M I0 G w0 E s a w K Q h hd hob hK
  have e : opx cx s.mem (ev s.tm) o = builtinOf cx s.mem .imag c.argTypes.toList o.dst (c.args.toList.map (ev s.tm)) := by simp [opx, ho, opE, hc]
  rw [e] at hob hK
  generalize hargs : c.args.toList.map (ev s.tm) = args at hob hK
  simp only [builtinOf] at hob hK
  match args with
  | [] => exact hob.elim
  | _ :: _ :: _ => exact hob.elim
  | [u] =>
    obtain ⟨x, e1, hx⟩ := args_one h.eval hargs
    simp only [imOf] at hob hK
    split at hob <;> try exact hob.elim
    rename_i a1 a2
    simp only at hK
    refine op_val h hd (x := .float .f64 a2) ?_ (.conc _ _ (.flt _)) hK
    obtain ⟨cs, e5⟩ := builtin_run (P := P) (a := a) ho hc w
    rw [e5]
    simp [e1, hx.inv_cpx, builtin, run_imag]

/-- The cells of one row into another one. -/
theorem copy_run {t t2 ty e : Nat} {inf : TypeInfo} (ht : P.underlying t = some (.slice e)) (hi : P.info? e = some inf) {g dl dc sl sc : Nat} {cur : Array Value} {e' : Nat} {ad : Addr} {cs : List Value}
    (hg : w.heap[g]? = some (.cells cur e' (0, 0))) (hl : cs.length = Nat.min sl dl * inf.size) (hsrc : ∀ j v, cs[j]? = some v → w.cell? (ad.add j) = some v) (hfit : cs.length ≤ cur.size) (h1 : ∀ v ∈ cs, v.oneCell' = true) :
    (Builtin.copy_ #[t, t2] ty #[.slice (some ⟨g, 0, none⟩) dl dc, .slice (some ad) sl sc]).run P w = .ok (.int .i64 (Nat.min sl dl : Nat)) (w.setRow g (cur.toList.take 0 ++ cs ++ cur.toList.drop (0 + cs.length)).toArray) := by
  have hld := run_loadCells_list (P := P) w ad cs hsrc
  have hst := run_storeCells_at P g 0 e' cs 0 cur w hg (by simpa using hfit) h1
  simp only [Nat.add_zero] at hst
  rw [hl] at hld
  simp [Builtin.copy_, run_underlying ht, Builtin.lenOf, Builtin.firstCells, run_size hi, hld, hst, goInt]
theorem copy_nil {t t2 ty e : Nat} {inf : TypeInfo} (ht : P.underlying t = some (.slice e)) (hi : P.info? e = some inf) {d ad : Option Addr} {dl dc sl sc : Nat} (h0 : Nat.min sl dl = 0) :
    (Builtin.copy_ #[t, t2] ty #[.slice d dl dc, .slice ad sl sc]).run P w = .ok (.int .i64 0) w := by
  have hl : ∀ (x : Addr), (loadCells x 0).run P w = .ok #[] w := fun x => by simpa using run_loadCells_list (P := P) w x [] (by simp)
  cases d <;> cases ad <;> simp [Builtin.copy_, run_underlying ht, Builtin.lenOf, Builtin.firstCells, run_size hi, h0, storeCells, hl, goInt]

theorem sound_copy (hP : CxOk P cx) {c : Call} (ho : o.op = .call c) (hc : c.callee = .builtin .copy) : Sound cx P o := by
  intro B M I0 G w0 E s a w K Q h hd hob hK
  have e : opx cx s.mem (ev s.tm) o = builtinOf cx s.mem .copy c.argTypes.toList o.dst (c.args.toList.map (ev s.tm)) := by simp [opx, ho, opE, hc]
  rw [e] at hob hK
  generalize hargs : c.args.toList.map (ev s.tm) = args at hob hK
  generalize hts : c.argTypes.toList = ts at hob hK
  simp only [builtinOf] at hob hK
  unfold copyOf at hob hK
  split at hob
  · rename_i t t' v w2
    simp only at hK
    obtain ⟨x, y, e1, hx, hy⟩ := args_two h.eval hargs
    have e2 := list_two hts
    split at hob
    · rename_i ks' l' rd' L hr ht
      simp only [hr, ht] at hK
      obtain ⟨d, h1, h2⟩ := (tyRun hP ht).desc
      cases hk : L.k <;> simp only [hk] at hob hK h2 <;> try exact hob.elim
      rename_i et
      have := TkOk_sl h2
      subst this
      cases hte : tyOf cx et with
      | none => simp only [hte] at hob; exact hob.elim
      | some Le =>
        simp only [hte] at hob hK
        obtain ⟨inf, z, i1, i2, i3, i4, i5, i6, i7⟩ := (tyRun hP hte).info
        cases v <;> simp only at hob hK <;> try exact hob.elim
        rename_i c0 ver
        cases hm : lkO s.mem c0 with
        | none => simp only [hm] at hob; exact hob.elim
        | some ch =>
          simp only [hm] at hob hK
          cases ch <;> simp only at hob hK <;> try exact hob.elim
          rename_i v2 e' ks l
          cases hq : (Nat.beq v2 ver && cksEq ks Le.ks && cksEq ks' Le.ks && plainK Le.ks && !(rd'.contains c0)) with
          | false => simp only [hq] at hob; exact hob.elim
          | true =>
            simp only [hq] at hob hK
            simp only [Bool.and_eq_true] at hq
            obtain ⟨⟨⟨⟨p1, p2⟩, p3⟩, p4⟩, p5⟩ := hq
            have p1 := Nat.eq_of_beq_eq_true p1
            have p2 := cksEq_eq _ _ p2
            have p3 := cksEq_eq _ _ p3
            subst p1
            obtain ⟨hsh, hcase⟩ := rowOf_cells h.ch hy hr
            rw [p3, ← p2] at hsh hcase
            rw [← p2] at i2 p4
            have hrow : RowR E w c0 e' ks l := by have := h.ch c0; rw [hm] at this; exact this
            obtain ⟨v', g1, g2⟩ := hx.inv_osl
            rw [hm] at g1
            simp only [verOf, Option.some.injEq] at g1
            have hxe := g2 g1
            obtain ⟨cs, e5⟩ := builtin_run (P := P) (a := a) ho hc w
            have run : ∀ {x' : Value} {w' : World}, (Builtin.copy_ #[t, t'] o.type #[x, y]).run P w = .ok x' w' → (execOp a.eval o).run P w = .ok (.value x') w' := fun hh => by
              rw [e5]
              simp [builtin, e1, e2, hh]
            have same : Nat.min l'.length l.length = 0 → copyL l l' = l := fun h0 => by
              unfold copyL
              have h0 : min l'.length l.length = 0 := h0
              rcases (by omega : l'.length = 0 ∨ l.length = 0) with q | q
              · rw [List.eq_nil_of_length_eq_zero q]; simp
              · rw [List.eq_nil_of_length_eq_zero q]; simp
            have nothing : ∀ {d ad : Option Addr} {dl dc sl sc : Nat}, x = .slice d dl dc → y = .slice ad sl sc → dl = l.length → sl = l'.length → Nat.min l'.length l.length = 0 → Oper.wp P o a w K Q := by
              intro d ad dl dc sl sc ex ey hdl hsl h0
              have hrun := run (by rw [ex, ey]; exact copy_nil (P := P) (w := w) (ty := o.type) (t2 := t') h1 i1 (by rw [hdl, hsl]; exact h0))
              unfold Oper.wp
              rw [hrun]
              refine hK E _ _ ?_
              rw [same h0, h0]
              have hr0 : RowR E w c0 e' ks l := hrow
              rcases hl : E.loc c0 with _ | g
              · exact (h.val (dOk_lt hd) (x := .int .i64 0) (v := .int .i64 0) (.conc _ _ (.int _ _))).congr (fun _ => rfl) (fun k => by
                  show lkO ([(c0, Chunk.row v2 e' ks l)] ++ s.mem) k = lkO ([] ++ s.mem) k
                  rw [List.singleton_append, lkO_cons, List.nil_append]
                  split
                  · rename_i q; rw [← q, hm]
                  · rfl)
              · exact h.storeRow hm hl (fun _ _ => rfl) rfl ⟨rfl, rfl, rfl⟩ hr0 (dOk_lt hd) (.conc _ _ (.int _ _))
            obtain ⟨t1, ⟨t2, xs, t3, t4⟩ | ⟨z1, z2, ad0, z3⟩⟩ := id hrow
            rotate_left
            · have hl0 : l.length = 0 := by rw [z1]; rfl
              have hx0 : x = .slice ad0 0 0 := hxe.trans z3
              rcases hcase with ⟨ey, el⟩ | ⟨el, ad, cap, ey⟩ | ⟨b, off, cap, f, ey, hf⟩
              · exact nothing hx0 ey hl0.symm (by rw [el]; rfl) (by rw [hl0]; exact Nat.min_zero _)
              · exact nothing hx0 ey hl0.symm (by rw [el]; rfl) (by rw [hl0]; exact Nat.min_zero _)
              · exact nothing hx0 ey hl0.symm rfl (by rw [hl0]; exact Nat.min_zero _)
            rw [hxe] at *
            rcases t3.2 with ⟨q1, q2⟩ | ⟨g, cap, cur, c1, c2, c3, c4, c5, c6, c7⟩
            · rcases hcase with ⟨ey, el⟩ | ⟨el, ad, cap, ey⟩ | ⟨b, off, cap, f, ey, hf⟩
              · exact nothing q1 ey q2.symm (by rw [el]; rfl) (by rw [q2]; exact Nat.min_zero _)
              · exact nothing q1 ey q2.symm (by rw [el]; rfl) (by rw [q2]; exact Nat.min_zero _)
              · exact nothing q1 ey q2.symm rfl (by rw [q2]; exact Nat.min_zero _)
            · rcases hcase with ⟨ey, el⟩ | ⟨el, ad, cap, ey⟩ | ⟨b, off, cap2, f, ey, hf⟩
              · exact nothing c1 ey rfl (by rw [el]; rfl) (by rw [el]; exact Nat.zero_min _)
              · exact nothing c1 ey rfl (by rw [el]; rfl) (by rw [el]; exact Nat.zero_min _)
              · have hl : E.loc c0 = some g := by rw [t2, c1]; rfl
                have hnl : Nat.min l'.length l.length ≤ l.length := Nat.min_le_right _ _
                have hnl' : Nat.min l'.length l.length ≤ l'.length := Nat.min_le_left _ _
                generalize hn : Nat.min l'.length l.length = n at *
                have hcap : l.length * ks.length ≤ cur.size := by rw [c6]; exact Nat.mul_le_mul_right _ c4
                have hnk : n * ks.length ≤ l.length * ks.length := Nat.mul_le_mul_right _ hnl
                have hclen : (cellList ks.length n f).length = n * ks.length := cellList_length
                have hrun := run (by
                  rw [c1, ey]
                  refine copy_run (P := P) (w := w) (t2 := t') (ty := o.type) (cs := cellList ks.length n f) h1 i1 c3 (by rw [hclen, i2, hn]) (fun j u hj => ?_) (by omega) (fun u hu => ?_)
                  · obtain ⟨d1, d2, d3, d4⟩ := cellList_get hj
                    rw [addr_add, d3]
                    have := (hf _ _ (Nat.lt_of_lt_of_le d1 hnl') d2).1
                    rw [Nat.add_assoc, ← d4] at this
                    exact this
                  · obtain ⟨j, hj⟩ := List.getElem?_of_mem hu
                    obtain ⟨d1, d2, d3, _⟩ := cellList_get hj
                    rw [d3]
                    exact kOk_one (plainK_get p4 _ d2) (shOk_get hsh (Nat.lt_of_lt_of_le d1 hnl') d2) (hf _ _ (Nat.lt_of_lt_of_le d1 hnl') d2).2)
                generalize hcu : (cur.toList.take 0 ++ cellList ks.length n f ++ cur.toList.drop (0 + (cellList ks.length n f).length)).toArray = cur' at hrun
                have hcs : cur'.size = cur.size := by rw [← hcu]; simp; omega
                have hheap := setRow_heap w g cur cur' e' (0, 0) c3
                have hI : ∀ k, E.I k → (w.setRow g cur').heap[k]? = w.heap[k]? := fun k hk => setRow_other _ _ _ _ (fun e => (h.loc c0 g hl).2.1 (e ▸ hk))
                have hgd : ∀ j, cur'.getD j undef = if j < n * ks.length then (cellList ks.length n f).getD j undef else cur.getD j undef := fun j => by
                  have := storeRow_getD cur (cellList ks.length n f).toArray 0 j (by simp; omega)
                  simp only [List.size_toArray, Nat.zero_le, true_and, Nat.zero_add, Nat.sub_zero] at this hcu
                  rw [hcu, hclen] at this
                  rw [this]
                  simp only [Array.getD_eq_getD_getElem?, List.getElem?_toArray, List.getD_eq_getElem?_getD]
                have hn2 : min l'.length l.length = n := hn
                have hll : (copyL l l').length = l.length := by
                  unfold copyL
                  simp only [List.length_append, List.length_take, List.length_drop]
                  omega
                have hget : ∀ i, i < l.length → (copyL l l').getD i .any = if i < n then l'.getD i .any else l.getD i .any := fun i hi => by
                  unfold copyL
                  simp only [List.getD_eq_getElem?_getD, List.getElem?_append, List.length_take, List.getElem?_take, List.getElem?_drop]
                  have hn' : min l.length l'.length = n := by rw [← hn]; exact Nat.min_comm _ _
                  rw [hn']
                  by_cases hin : i < n
                  · rw [if_pos hin, if_pos hin, if_pos hi]
                  · rw [if_neg hin, if_neg hin]
                    have : l'.length + (i - n) = i := by
                      have : n = l'.length ∨ n = l.length := by omega
                      omega
                    rw [this]
                unfold Oper.wp
                rw [hrun]
                rw [hn]
                refine hK E _ _ (h.storeRow hm hl (fun k hk => setRow_other _ _ _ _ hk) (by simp [World.setRow]) ⟨rfl, rfl, rfl⟩ ⟨fun v hv => ?_, .inl ⟨t2, (cur'.toList.take (l.length * ks.length)), ⟨?_, .inr ⟨g, cap, cur', ?_, c2, hheap, ?_, c5, by rw [hcs]; exact c6, ?_⟩⟩, fun i j hi hj => ?_⟩⟩ (dOk_lt hd) (.conc _ _ (.int _ _)))
                · rcases List.mem_append.1 hv with hv | hv
                  · exact hsh _ (List.mem_of_mem_take hv)
                  · exact t1 _ (List.mem_of_mem_drop hv)
                · rw [hll]; simp only [List.length_take, Array.length_toList]; omega
                · rw [hll, c1]
                · rw [hll]; exact c4
                · rw [hll]
                · rw [hll] at hi
                  have hlt : i * ks.length + j < l.length * ks.length := by
                    have : (i + 1) * ks.length ≤ l.length * ks.length := Nat.mul_le_mul_right _ hi
                    rw [Nat.add_mul, Nat.one_mul] at this
                    omega
                  have g1 : (cur'.toList.take (l.length * ks.length)).getD (i * ks.length + j) undef = cur'.getD (i * ks.length + j) undef := by
                    rw [List.getD_eq_getElem?_getD, List.getElem?_take, if_pos hlt, Array.getD_eq_getD_getElem?, Array.getElem?_toList]
                  have g2 : xs.getD (i * ks.length + j) undef = cur.getD (i * ks.length + j) undef := by
                    rw [← c7, List.getD_eq_getElem?_getD, List.getElem?_take, if_pos hlt, Array.getD_eq_getD_getElem?, Array.getElem?_toList]
                  have hold := t4 i j hi hj
                  rw [g2] at hold
                  rw [g1, hgd]
                  unfold elCell
                  rw [hget i hi]
                  by_cases hin : i < n
                  · have hlt2 : i * ks.length + j < n * ks.length := by
                      have : (i + 1) * ks.length ≤ n * ks.length := Nat.mul_le_mul_right _ hin
                      rw [Nat.add_mul, Nat.one_mul] at this
                      omega
                    rw [if_pos hin, if_pos hlt2, cellList_getD hin hj]
                    exact ((hf i j (by omega) hj).2).mono (fun _ h => h) hI
                  · have hge : n * ks.length ≤ i * ks.length := Nat.mul_le_mul_right _ (by omega)
                    rw [if_neg hin, if_neg (by omega)]
                    exact hold.mono (fun _ h => h) hI
    · exact hob.elim
  · exact hob.elim

/-- Nothing is appended. -/
theorem append_none {t ty e size : Nat} {inf : TypeInfo} {v : Value} {n : Nat} {xs : List Value} {ad : Option Addr} {cap : Nat} (ht : P.underlying t = some (.slice e)) (hi : P.info? e = some inf) (ho : w.ownsRow 0 e size v n xs) :
    (Builtin.append_ #[t, t] ty #[v, .slice ad 0 cap]).run P w = .ok v w := by
  have hf : (Builtin.firstCells inf.size 0 (.slice ad 0 cap)).run P w = .ok #[] w := by cases ad <;> simp [Builtin.firstCells, loadCells, loadCellsFrom]
  rcases ho.2 with ⟨rfl, rfl⟩ | ⟨g, c, cur, rfl, _, _, hn, _⟩
  · simp [Builtin.append_, run_underlying ht, run_size hi, Builtin.lenOf, hf]
  · simp [Builtin.append_, run_underlying ht, run_size hi, Builtin.lenOf, hf, hn, storeCells]

theorem append_zero {t ty e : Nat} {inf : TypeInfo} {ad0 ad : Option Addr} {cap : Nat} (ht : P.underlying t = some (.slice e)) (hi : P.info? e = some inf) :
    (Builtin.append_ #[t, t] ty #[.slice ad0 0 0, .slice ad 0 cap]).run P w = .ok (.slice ad0 0 0) w := by
  have hf : (Builtin.firstCells inf.size 0 (.slice ad 0 cap)).run P w = .ok #[] w := by cases ad <;> simp [Builtin.firstCells, loadCells, loadCellsFrom]
  cases ad0 <;> simp [Builtin.append_, run_underlying ht, run_size hi, Builtin.lenOf, hf, storeCells]

/-- Some are. -/
theorem append_some {t ty e : Nat} {inf : TypeInfo} {z v : Value} {n : Nat} {xs : List Value} {ad : Addr} {m c : Nat} {news : List Value} (ht : P.underlying t = some (.slice e)) (hi : P.info? e = some inf) (hz : inf.zero = some z) (hzs : z.cells.size = inf.size)
    (ho : w.ownsRow 0 e inf.size v n xs) (hm : 0 < m) (hl : news.length = m * inf.size) (hnews : ∀ j u, news[j]? = some u → w.cell? (ad.add j) = some u) (h1 : ∀ u ∈ news, u.oneCell' = true)
    (hlen : n + m ≤ 1099511627776) (hby : (n + m) * inf.bytes ≤ 1099511627776) :
    ∃ v' w', (Builtin.append_ #[t, t] ty #[v, .slice (some ad) m c]).run P w = .ok v' w' ∧ w'.ownsRow 0 e inf.size v' (n + m) (xs ++ news) ∧ w.grownBy w' v.ownBlock ∧ ∀ b, v'.ownBlock = some b → b < w'.heap.size ∧ (v.ownBlock = some b ∨ w.heap.size ≤ b) := by
  have hxs := ho.1
  have hxl : (xs ++ news).length = (n + m) * inf.size := by rw [List.length_append, hxs, hl, Nat.add_mul]
  -- a new block
  have fresh : ∀ (old : Nat) (cells : Array Value), cells = xs.toArray ++ news.toArray ++ Builtin.zeroCells z.cells (grownCap w (n + m) old e - (n + m)) →
      (w.drew.alloc (.cells cells e)).ownsRow 0 e inf.size (.slice (some ⟨w.heap.size, 0, none⟩) (n + m) (grownCap w (n + m) old e)) (n + m) (xs ++ news) := by
    intro old cells hc
    have hge := grownCap_ge w (n + m) old e
    refine ⟨hxl, .inr ⟨w.heap.size, _, cells, rfl, Nat.zero_le _, heap_new w.drew _, hge, grownCap_le_maxLen w (n + m) old e (by simp only [maxLen]; omega), ?_, ?_⟩⟩
    · rw [hc]
      simp only [Array.size_append, List.size_toArray, size_zeroCells, hxs, hl, hzs, ← Nat.add_mul]
      congr 1
      omega
    · rw [hc]
      simp only [Array.toList_append]
      rw [← hxl]
      exact List.take_left
  have grew : ∀ (o : Obj) (r : Option Nat), w.grownBy (w.drew.alloc o) r := fun o r => ⟨rfl, rfl, rfl, by simp, fun k hk _ => heap_push w.drew o k hk⟩
  rcases ho.2 with ⟨rfl, rfl⟩ | ⟨g, cap, cur, rfl, _, hg, hnc, hcm, hcs, htk⟩
  · have hx : xs = [] := List.eq_nil_of_length_eq_zero (by simpa using hxs)
    subst hx
    simp only [Nat.zero_add] at hby hlen
    have hr := run_append_nil (P := P) w t ty e inf z ht hi hz ad m c news hl hnews hm (by omega) (by omega)
    refine ⟨_, _, hr, ?_, grew _ _, fun b hb => ?_⟩
    · have := fresh 0 (news.toArray ++ Builtin.zeroCells z.cells (grownCap w m 0 e - m)) (by simp)
      simpa only [Nat.zero_add] using this
    · simp only [Value.ownBlock, Option.some.injEq] at hb
      subst hb
      exact ⟨by simp, .inr (Nat.le_refl _)⟩
  · by_cases hroom : n + m ≤ cap
    · have hfit : n * inf.size + news.length ≤ cur.size := by rw [hl, hcs, ← Nat.add_mul]; exact Nat.mul_le_mul_right _ hroom
      have hr := run_append_room (P := P) w t ty e inf ht hi g n cap cur hg ad m c news hl hnews h1 hroom hfit
      refine ⟨_, _, hr, ⟨hxl, .inr ⟨g, cap, _, rfl, Nat.zero_le _, setRow_heap w g cur _ e _ hg, hroom, hcm, ?_, ?_⟩⟩, ⟨rfl, rfl, rfl, by simp [World.setRow], fun k _ hk => setRow_other w g _ k (fun e => hk (by simp [Value.ownBlock, e]))⟩, fun b hb => ?_⟩
      · simp only [List.size_toArray, List.length_append, List.length_take, List.length_drop, Array.length_toList]
        omega
      · rw [htk, ← hxl]
        exact List.take_left
      · simp only [Value.ownBlock, Option.some.injEq] at hb
        subst hb
        refine ⟨?_, .inl rfl⟩
        have : g < w.heap.size := by
          rcases Nat.lt_or_ge g w.heap.size with h | h
          · exact h
          · rw [Array.getElem?_eq_none h] at hg; cases hg
        simpa [World.setRow] using this
    · have holds : ∀ j u, xs[j]? = some u → w.cell? ((⟨g, 0, none⟩ : Addr).add j) = some u := ho.cells (g := g) rfl
      have hr := run_append_grow (P := P) w t ty e inf z ht hi hz ⟨g, 0, none⟩ n cap xs hxs holds ad m c news hl hnews (by omega) (by omega) (growslice_fits (by omega) (by omega))
      refine ⟨_, _, hr, fresh cap _ rfl, grew _ _, fun b hb => ?_⟩
      simp only [Value.ownBlock, Option.some.injEq] at hb
      subst hb
      exact ⟨by simp, .inr (Nat.le_refl _)⟩

/-- .. onto a slice that is full: a new block. -/
theorem append_full {t ty e : Nat} {inf : TypeInfo} {z : Value} {n : Nat} {xs : List Value} {ad0 : Option Addr} {ad : Addr} {m c : Nat} {news : List Value} (ht : P.underlying t = some (.slice e)) (hi : P.info? e = some inf) (hz : inf.zero = some z) (hzs : z.cells.size = inf.size)
    (hxs : xs.length = n * inf.size) (ho : (n = 0 ∧ ad0 = none) ∨ ∃ b, ad0 = some b ∧ ∀ j u, xs[j]? = some u → w.cell? (b.add j) = some u) (hm : 0 < m) (hl : news.length = m * inf.size) (hnews : ∀ j u, news[j]? = some u → w.cell? (ad.add j) = some u)
    (hlen : n + m ≤ 1099511627776) (hby : (n + m) * inf.bytes ≤ 1099511627776) :
    ∃ v' w', (Builtin.append_ #[t, t] ty #[.slice ad0 n n, .slice (some ad) m c]).run P w = .ok v' w' ∧ w'.ownsRow 0 e inf.size v' (n + m) (xs ++ news) ∧ w.grownBy w' none ∧ ∀ b, v'.ownBlock = some b → b < w'.heap.size ∧ w.heap.size ≤ b := by
  have hxl : (xs ++ news).length = (n + m) * inf.size := by rw [List.length_append, hxs, hl, Nat.add_mul]
  have fresh : ∀ (old : Nat) (cells : Array Value), cells = xs.toArray ++ news.toArray ++ Builtin.zeroCells z.cells (grownCap w (n + m) old e - (n + m)) →
      (w.drew.alloc (.cells cells e)).ownsRow 0 e inf.size (.slice (some ⟨w.heap.size, 0, none⟩) (n + m) (grownCap w (n + m) old e)) (n + m) (xs ++ news) := by
    intro old cells hc
    have hge := grownCap_ge w (n + m) old e
    refine ⟨hxl, .inr ⟨w.heap.size, _, cells, rfl, Nat.zero_le _, heap_new w.drew _, hge, grownCap_le_maxLen w (n + m) old e (by simp only [maxLen]; omega), ?_, ?_⟩⟩
    · rw [hc]
      simp only [Array.size_append, List.size_toArray, size_zeroCells, hxs, hl, hzs, ← Nat.add_mul]
      congr 1
      omega
    · rw [hc]
      simp only [Array.toList_append]
      rw [← hxl]
      exact List.take_left
  have grew : ∀ (o : Obj), w.grownBy (w.drew.alloc o) none := fun o => ⟨rfl, rfl, rfl, by simp, fun k hk _ => heap_push w.drew o k hk⟩
  rcases ho with ⟨rfl, rfl⟩ | ⟨b, rfl, holds⟩
  · have hx : xs = [] := List.eq_nil_of_length_eq_zero (by simpa using hxs)
    subst hx
    simp only [Nat.zero_add] at hby hlen
    have hr := run_append_nil (P := P) w t ty e inf z ht hi hz ad m c news hl hnews hm (by omega) (by omega)
    refine ⟨_, _, hr, ?_, grew _, fun b hb => ?_⟩
    · have := fresh 0 (news.toArray ++ Builtin.zeroCells z.cells (grownCap w m 0 e - m)) (by simp)
      simpa only [Nat.zero_add] using this
    · simp only [Value.ownBlock, Option.some.injEq] at hb
      subst hb
      exact ⟨by simp, Nat.le_refl _⟩
  · have hr := run_append_grow (P := P) w t ty e inf z ht hi hz b n n xs hxs holds ad m c news hl hnews (by omega) (by omega) (growslice_fits (by omega) (by omega))
    refine ⟨_, _, hr, fresh n _ rfl, grew _, fun b hb => ?_⟩
    simp only [Value.ownBlock, Option.some.injEq] at hb
    subst hb
    exact ⟨by simp, Nat.le_refl _⟩

theorem sound_append (hP : CxOk P cx) {c : Call} (ho : o.op = .call c) (hc : c.callee = .builtin .append) : Sound cx P o := by
  intro B M I0 G w0 E s a w K Q h hd hob hK
  have e : opx cx s.mem (ev s.tm) o = builtinOf cx s.mem .append c.argTypes.toList o.dst (c.args.toList.map (ev s.tm)) := by simp [opx, ho, opE, hc]
  rw [e] at hob hK
  generalize hargs : c.args.toList.map (ev s.tm) = args at hob hK
  generalize hts : c.argTypes.toList = ts at hob hK
  simp only [builtinOf] at hob hK
  unfold appOf at hob hK
  split at hob
  · rename_i t t' v w2
    simp only at hK
    obtain ⟨x, y, e1, hx, hy⟩ := args_two h.eval hargs
    have e2 := list_two hts
    split at hob
    · rename_i ks' l' rd' L hr ht hbt
      simp only [hr, ht, hbt] at hK
      have hbt' := Nat.eq_of_beq_eq_true hbt
      subst hbt'
      obtain ⟨d, h1, h2⟩ := (tyRun hP ht).desc
      cases hk : L.k <;> simp only [hk] at hob hK h2 <;> try exact hob.elim
      rename_i et
      have := TkOk_sl h2
      subst this
      cases hte : tyOf cx et with
      | none => simp only [hte] at hob; exact hob.elim
      | some Le =>
        simp only [hte] at hob hK
        cases hq : (cksEq ks' Le.ks && plainK Le.ks && Nat.blt 0 Le.ks.length) with
        | false => simp only [hq] at hob; exact hob.elim
        | true =>
          simp only [hq] at hob hK
          simp only [Bool.and_eq_true] at hq
          obtain ⟨⟨q1, q2⟩, q3⟩ := hq
          have q1 := cksEq_eq _ _ q1
          have q3 : 0 < Le.ks.length := by simpa [Nat.blt_eq] using q3
          obtain ⟨inf, z, i1, i2, i3, i4, i5, i6, i7⟩ := (tyRun hP hte).info
          obtain ⟨hsh, hcase⟩ := rowOf_cells h.ch hy hr
          rw [q1] at hsh hcase
          -- one append, onto whatever the function owns
          have main : ∀ (n : Nat) (xs : List Value), w.ownsRow 0 et Le.ks.length x n xs → n + l'.length ≤ 1099511627776 → (n + l'.length) * Le.bytes ≤ 1099511627776 →
              ∃ x' w' news, (execOp a.eval o).run P w = .ok (.value x') w' ∧ w'.ownsRow 0 et Le.ks.length x' (n + l'.length) (xs ++ news) ∧ w.grownBy w' x.ownBlock ∧ (∀ b, x'.ownBlock = some b → b < w'.heap.size ∧ (x.ownBlock = some b ∨ w.heap.size ≤ b)) ∧
                xs.length = n * Le.ks.length ∧ news.length = l'.length * Le.ks.length ∧ ∀ i j, i < l'.length → j < Le.ks.length → Conc E.I w (news.getD (i * Le.ks.length + j) undef) (elCell l' i j) := by
            intro n xs hown hn hby
            obtain ⟨cs, e5⟩ := builtin_run (P := P) (a := a) ho hc w
            have run : ∀ {x' : Value} {w' : World}, (Builtin.append_ #[t, t] o.type #[x, y]).run P w = .ok x' w' → (execOp a.eval o).run P w = .ok (.value x') w' := fun hh => by
              rw [e5]
              simp [builtin, e1, e2, hh]
            rw [← i2] at hown q3 ⊢
            have nothing : ∀ ad cap, y = .slice ad 0 cap → l' = [] → ∃ x' w' news, (execOp a.eval o).run P w = .ok (.value x') w' ∧ w'.ownsRow 0 et inf.size x' (n + l'.length) (xs ++ news) ∧ w.grownBy w' x.ownBlock ∧ (∀ b, x'.ownBlock = some b → b < w'.heap.size ∧ (x.ownBlock = some b ∨ w.heap.size ≤ b)) ∧
                xs.length = n * inf.size ∧ news.length = l'.length * inf.size ∧ ∀ i j, i < l'.length → j < inf.size → Conc E.I w (news.getD (i * inf.size + j) undef) (elCell l' i j) := by
              intro ad cap ey el
              subst el
              refine ⟨x, w, [], run (by rw [ey]; exact append_none h1 i1 hown), by simpa using hown, ⟨rfl, rfl, rfl, Nat.le_refl _, fun _ _ _ => rfl⟩, fun b hb => ⟨?_, .inl hb⟩, hown.1, by simp, fun i j hi => by simp at hi⟩
              exact (World.ownsRow.lt hown b hb).2
            rcases hcase with ⟨ey, el⟩ | ⟨el, ad, cap, ey⟩ | ⟨b, off, cap, f, ey, hf⟩
            · exact nothing none 0 ey el
            · exact nothing ad cap ey el
            · by_cases hl0 : l' = []
              · exact nothing _ _ (by rw [ey, hl0]; rfl) hl0
              · have hpos : 0 < l'.length := List.length_pos_iff.2 hl0
                obtain ⟨x', w', r1, r2, r3, r4⟩ := append_some (ty := o.type) (ad := ⟨b, off, none⟩) (m := l'.length) (c := cap) (news := cellList inf.size l'.length f) h1 i1 i4 (by omega) hown hpos cellList_length (fun j u hj => by
                  obtain ⟨c1, c2, c3, c4⟩ := cellList_get hj
                  rw [addr_add, c3]
                  have := (hf _ _ c1 (by rw [← i2]; exact c2)).1
                  rw [← i2, Nat.add_assoc, ← c4] at this
                  exact this) (fun u hu => by
                  obtain ⟨j, hj⟩ := List.getElem?_of_mem hu
                  obtain ⟨c1, c2, c3, _⟩ := cellList_get hj
                  rw [c3]
                  have c2' : j % inf.size < Le.ks.length := by rw [← i2]; exact c2
                  exact kOk_one (plainK_get q2 _ c2') (shOk_get hsh c1 c2') (hf _ _ c1 c2').2) hn (by rw [i3]; exact hby)
                exact ⟨x', w', _, run (by rw [ey]; exact r1), r2, r3, r4, hown.1, cellList_length, fun i j hi hj => by rw [cellList_getD hi hj]; exact (hf i j hi (by rw [← i2]; exact hj)).2⟩
          have elcell : ∀ (l : List SV) (xs news : List Value) (w' : World), (∀ i j, i < l.length → j < Le.ks.length → Conc E.I w' (xs.getD (i * Le.ks.length + j) undef) (elCell l i j)) → (∀ i j, i < l'.length → j < Le.ks.length → Conc E.I w' (news.getD (i * Le.ks.length + j) undef) (elCell l' i j)) →
              xs.length = l.length * Le.ks.length → ∀ i j, i < (l ++ l').length → j < Le.ks.length → Conc E.I w' ((xs ++ news).getD (i * Le.ks.length + j) undef) (elCell (l ++ l') i j) := by
            intro l xs news w' c1 c2 c3 i j hi hj
            by_cases hil : i < l.length
            · have hlt : i * Le.ks.length + j < xs.length := by
                rw [c3]
                have : (i + 1) * Le.ks.length ≤ l.length * Le.ks.length := Nat.mul_le_mul_right _ hil
                rw [Nat.add_mul, Nat.one_mul] at this
                omega
              have e3 : (xs ++ news).getD (i * Le.ks.length + j) undef = xs.getD (i * Le.ks.length + j) undef := by simp only [List.getD_eq_getElem?_getD]; rw [List.getElem?_append_left hlt]
              have e4 : elCell (l ++ l') i j = elCell l i j := by simp only [elCell, List.getD_eq_getElem?_getD]; rw [List.getElem?_append_left hil]
              rw [e3, e4]; exact c1 i j hil hj
            · have hge : xs.length ≤ i * Le.ks.length + j := by
                rw [c3]
                have : l.length * Le.ks.length ≤ i * Le.ks.length := Nat.mul_le_mul_right _ (by omega)
                omega
              have e3 : (xs ++ news).getD (i * Le.ks.length + j) undef = news.getD ((i - l.length) * Le.ks.length + j) undef := by
                simp only [List.getD_eq_getElem?_getD]
                rw [List.getElem?_append_right hge, c3]
                congr 2
                rw [Nat.sub_mul]
                have : l.length * Le.ks.length ≤ i * Le.ks.length := Nat.mul_le_mul_right _ (by omega)
                omega
              have e4 : elCell (l ++ l') i j = elCell l' (i - l.length) j := by simp only [elCell, List.getD_eq_getElem?_getD]; rw [List.getElem?_append_right (by omega)]
              rw [e3, e4]; exact c2 _ j (by simp at hi; omega) hj
          have keepI : ∀ {w' : World} {row : Option Nat}, w.grownBy w' row → (∀ k, row = some k → ¬ E.I k) → ∀ {v : Value} {u : SV}, Conc E.I w v u → Conc E.I w' v u := fun hg hrow _ _ hv =>
            hv.mono (fun _ h => h) (fun b hb => hg.block b (h.inew b hb).1 (fun e => hrow b e.symm hb))
          -- onto a slice without room
          have zapp : ∀ {adz : Option Addr}, x = .slice adz 0 0 → l'.length ≤ 1099511627776 → l'.length * Le.bytes ≤ 1099511627776 → (l' = [] ∧ (execOp a.eval o).run P w = .ok (.value x) w) ∨
              ∃ x' w' news, (execOp a.eval o).run P w = .ok (.value x') w' ∧ w'.ownsRow 0 et Le.ks.length x' l'.length news ∧ w.grownBy w' none ∧ (∀ b, x'.ownBlock = some b → b < w'.heap.size ∧ w.heap.size ≤ b) ∧
                ∀ i j, i < l'.length → j < Le.ks.length → Conc E.I w' (news.getD (i * Le.ks.length + j) undef) (elCell l' i j) := by
            intro adz ex hn hby
            obtain ⟨cs, e5⟩ := builtin_run (P := P) (a := a) ho hc w
            have run : ∀ {x' : Value} {w' : World}, (Builtin.append_ #[t, t] o.type #[x, y]).run P w = .ok x' w' → (execOp a.eval o).run P w = .ok (.value x') w' := fun hh => by
              rw [e5]
              simp [builtin, e1, e2, hh]
            have nothing : ∀ ad cap, y = .slice ad 0 cap → l' = [] → (l' = [] ∧ (execOp a.eval o).run P w = .ok (.value x) w) := fun ad cap ey el =>
              ⟨el, run (by rw [ey, ex]; exact append_zero h1 i1)⟩
            rcases hcase with ⟨ey, el⟩ | ⟨el, ad, cap, ey⟩ | ⟨b, off, cap, f, ey, hf⟩
            · exact .inl (nothing none 0 ey el)
            · exact .inl (nothing ad cap ey el)
            · by_cases hl0 : l' = []
              · exact .inl (nothing _ _ (by rw [ey, hl0]; rfl) hl0)
              · refine .inr ?_
                have hnews : ∀ j u, (cellList inf.size l'.length f)[j]? = some u → w.cell? ((⟨b, off, none⟩ : Addr).add j) = some u := fun j u hj => by
                  obtain ⟨c1, c2, c3, c4⟩ := cellList_get hj
                  rw [addr_add, c3]
                  have := (hf _ _ c1 (by rw [← i2]; exact c2)).1
                  rw [← i2, Nat.add_assoc, ← c4] at this
                  exact this
                obtain ⟨x', w', r1, r2, r3, r4⟩ := append_full (P := P) (w := w) (ty := o.type) (ad0 := adz) (ad := ⟨b, off, none⟩) (m := l'.length) (c := cap) (news := cellList inf.size l'.length f) (n := 0) (xs := []) h1 i1 i4 (by omega) (by simp)
                  (by cases adz with
                    | none => exact .inl ⟨rfl, rfl⟩
                    | some b => exact .inr ⟨b, rfl, fun j u hu => by simp at hu⟩) (List.length_pos_iff.2 hl0) cellList_length hnews (by omega) (by rw [i3]; simpa using hby)
                refine ⟨x', w', _, run (by rw [ey, ex]; exact r1), by simpa [i2] using r2, r3, r4, fun i j hi hj => ?_⟩
                rw [← i2, cellList_getD hi (by rw [i2]; exact hj)]
                exact keepI r3 (fun k hk => by cases hk) (hf i j hi hj).2
          split at hob
          · -- onto nil
            simp only at hK
            have hnil := hx.inv_nilsl
            cases hdst : o.dst with
            | none => simp only [hdst] at hob; exact hob.elim
            | some d =>
              simp only [hdst] at hob hK
              cases hfree : lkO s.mem (cx.off + d) with
              | some _ => simp only [hfree] at hob; exact hob.elim
              | none =>
                simp only [hfree] at hob hK
                obtain ⟨⟨b1, b2⟩⟩ := hob
                obtain ⟨x', w', news, r1, r2, r3, r4, r5, r6, r7⟩ := main 0 [] (by rw [hnil]; exact World.ownsRow_nil w 0 et _) (by omega) (by simpa using b1)
                simp only [Nat.zero_add, List.nil_append] at r2
                have hob0 : x.ownBlock = none := by rw [hnil]; rfl
                unfold Oper.wp
                rw [r1]
                refine hK (E.withRow (cx.off + d) x') _ _ ?_
                rw [hdst]
                exact h.row rfl (fun _ => rfl) (.inl ⟨hfree, hob0⟩) r3 (fun k hk => by rw [hob0] at hk; cases hk) (fun b hb => ⟨(r4 b hb).1, .inr (by have := (r4 b hb).2; rw [hob0] at this; simpa using this)⟩) hsh r2
                  (fun i j hi hj => keepI r3 (fun k hk => by rw [hob0] at hk; cases hk) (r7 i j hi hj)) (fun k hk => dOk_lt hd k (by rw [hdst]; exact hk))
          · -- onto a slice of its own
            rename_i c0 ver
            simp only at hK
            cases hm : lkO s.mem c0 with
            | none => simp only [hm] at hob; exact hob.elim
            | some ch =>
              simp only [hm] at hob hK
              cases ch <;> simp only at hob hK <;> try exact hob.elim
              rename_i v2 e' ks l
              cases hq2 : (Nat.beq v2 ver && Nat.beq et e' && cksEq ks Le.ks && !(rd'.contains c0)) with
              | false => simp only [hq2] at hob; exact hob.elim
              | true =>
                simp only [hq2] at hob hK
                simp only [Bool.and_eq_true] at hq2
                obtain ⟨⟨⟨p1, p2⟩, p3⟩, p4⟩ := hq2
                have p1 := Nat.eq_of_beq_eq_true p1
                have p2 := Nat.eq_of_beq_eq_true p2
                have p3 := cksEq_eq _ _ p3
                subst p1 p2 p3
                obtain ⟨⟨b1, b2⟩⟩ := hob
                have hc0 := h.ch c0
                rw [hm] at hc0
                obtain ⟨v', g1, g2⟩ := hx.inv_osl
                rw [hm] at g1
                simp only [verOf, Option.some.injEq] at g1
                have hxe := g2 g1
                obtain ⟨t1, ⟨t2, xs, t3, t4⟩ | ⟨z1, z2, adz, z3⟩⟩ := hc0
                rotate_left
                · rw [← hxe] at z3
                  subst z1
                  obtain ⟨r1, r2⟩ | ⟨x', w', news, r1, r2, r3, r4, r5⟩ := zapp z3 (by simpa using b2) (by simpa using b1)
                  · unfold Oper.wp
                    rw [r2, z3]
                    refine hK (E.withRow c0 (.slice adz 0 0)) _ _ ?_
                    exact h.rowZ (.inr ⟨v2, by rw [hm]; rfl, Nat.lt_succ_self _⟩) (by rw [r1]; rfl) (dOk_lt hd)
                  · unfold Oper.wp
                    rw [r1]
                    refine hK (E.withRow c0 x') _ _ ?_
                    exact h.row (row := none) rfl (fun _ => rfl) (.inr ⟨v2, by rw [hm]; rfl, Nat.lt_succ_self _⟩) r3 (fun k hk => by cases hk) (fun b hb => ⟨(r4 b hb).1, .inr (r4 b hb).2⟩) (fun e he => hsh e (by simpa using he)) (by simpa using r2)
                      (fun i j hi hj => by simpa using r5 i j (by simpa using hi) hj) (dOk_lt hd)
                rw [← hxe] at t2 t3
                obtain ⟨x', w', news, r1, r2, r3, r4, r5, r6, r7⟩ := main l.length xs t3 b2 b1
                unfold Oper.wp
                rw [r1]
                have hnI : ∀ k, x.ownBlock = some k → ¬ E.I k := fun k hk => (h.loc c0 k (t2.trans hk)).2.1
                refine hK (E.withRow c0 x') _ _ ?_
                exact h.row rfl (fun _ => rfl) (.inr ⟨v2, by rw [hm]; rfl, Nat.lt_succ_self _⟩) r3 (fun k hk => t2.trans hk) (fun b hb => ⟨(r4 b hb).1, by
                  rcases (r4 b hb).2 with q | q
                  · exact .inl ⟨by rw [hm]; simp, t2.trans q⟩
                  · exact .inr q⟩) (fun e he => (List.mem_append.1 he).elim (t1 e) (hsh e)) (by rw [List.length_append]; exact r2)
                  (elcell l xs news w' (fun i j hi hj => keepI r3 hnI (t4 i j hi hj)) (fun i j hi hj => keepI r3 hnI (r7 i j hi hj)) r5) (dOk_lt hd)
          · -- onto a full slice
            rename_i ks l
            simp only at hK
            cases hdst : o.dst with
            | none => simp only [hdst] at hob; exact hob.elim
            | some d =>
              cases hq3 : cksEq ks Le.ks with
              | false => simp only [hdst, hq3] at hob; exact hob.elim
              | true =>
                simp only [hdst, hq3] at hob hK
                have hq3 := cksEq_eq _ _ hq3
                subst hq3
                cases hn : nextV (lkO s.mem (cx.off + d)) with
                | none => simp only [hn] at hob; exact hob.elim
                | some ver =>
                  simp only [hn] at hob hK
                  obtain ⟨⟨b0, b1, b2⟩⟩ := hob
                  obtain ⟨ad0, ex, hsl⟩ := hx.inv_fsl
                  have hc1 : lkO s.mem (cx.off + d) = none ∨ ∃ v, verOf (lkO s.mem (cx.off + d)) = some v ∧ v < ver := by
                    cases hm : lkO s.mem (cx.off + d) with
                    | none => exact .inl rfl
                    | some ch =>
                      rw [hm] at hn
                      cases ch <;> simp only [nextV, Option.some.injEq, reduceCtorEq] at hn
                      · exact .inr ⟨_, rfl, by omega⟩
                      · exact .inr ⟨_, rfl, by omega⟩
                  by_cases hl00 : l' = []
                  · have e0 : l = [] := by
                      rcases b0 with b0 | b0
                      · exact b0
                      · rw [hl00] at b0; simp at b0
                    subst e0
                    have ex : x = .slice ad0 0 0 := ex
                    obtain ⟨r1, r2⟩ | ⟨x', w', news, r1, r2, r3, r4, r5⟩ := zapp ex (by rw [hl00]; simp) (by rw [hl00]; simp)
                    · unfold Oper.wp
                      rw [r2, ex]
                      refine hK (E.withRow (cx.off + d) (.slice ad0 0 0)) _ _ ?_
                      rw [hdst]
                      exact h.rowZ hc1 (by rw [r1]; rfl) (fun k hk => dOk_lt hd k (by rw [hdst]; exact hk))
                    · have : w'.ownsRow 0 et Le.ks.length x' 0 news := by rw [hl00] at r2; exact r2
                      unfold Oper.wp
                      rw [r1]
                      refine hK (E.withRow (cx.off + d) x') _ _ ?_
                      rw [hdst]
                      exact h.row (row := none) rfl (fun _ => rfl) (hc1.imp (fun h => ⟨h, rfl⟩) (fun h => h)) r3 (fun k hk => by cases hk) (fun b hb => ⟨(r4 b hb).1, .inr (r4 b hb).2⟩) (fun e he => hsh e (by simpa using he)) (by simpa using r2)
                        (fun i j hi hj => by simpa using r5 i j (by simpa using hi) hj) (fun k hk => dOk_lt hd k (by rw [hdst]; exact hk))
                  have b0 : 0 < l'.length := List.length_pos_iff.2 hl00
                  have hl0 : l' ≠ [] := List.length_pos_iff.1 b0
                  obtain ⟨b, off, cap, f, ey, hf⟩ : ∃ (b off cap : Nat) (f : Nat → Nat → Value), y = .slice (some ⟨b, off, none⟩) l'.length cap ∧
                      ∀ i j, i < l'.length → j < Le.ks.length → w.cell? ⟨b, off + i * Le.ks.length + j, none⟩ = some (f i j) ∧ Conc E.I w (f i j) (elCell l' i j) := by
                    rcases hcase with ⟨_, el⟩ | ⟨el, _⟩ | hh
                    · exact (hl0 el).elim
                    · exact (hl0 el).elim
                    · exact hh
                  obtain ⟨xs, hxs, hold, hxc, hshl⟩ : ∃ xs : List Value, xs.length = l.length * Le.ks.length ∧ ((l.length = 0 ∧ ad0 = none) ∨ ∃ b, ad0 = some b ∧ ∀ j u, xs[j]? = some u → w.cell? (b.add j) = some u) ∧
                      (∀ i j, i < l.length → j < Le.ks.length → Conc E.I w (xs.getD (i * Le.ks.length + j) undef) (elCell l i j)) ∧ (∀ e, e ∈ l → shOk Le.ks e) := by
                    obtain ⟨hsh', hcs'⟩ := rowOf_cells (ks := Le.ks) (l := l) (rd := []) h.ch hx rfl
                    rw [ex] at hcs'
                    rcases hcs' with ⟨e6, e7⟩ | ⟨e7, _⟩ | ⟨b', off', cap', g, e6, hg⟩
                    · subst e7
                      refine ⟨[], by simp, .inl ⟨rfl, by simpa using e6⟩, fun i j hi => by simp at hi, hsh'⟩
                    · subst e7
                      refine ⟨[], by simp, ?_, fun i j hi => by simp at hi, hsh'⟩
                      cases ad0 with
                      | none => exact .inl ⟨rfl, rfl⟩
                      | some b => exact .inr ⟨b, rfl, fun j u hu => by simp at hu⟩
                    · simp only [Value.slice.injEq, true_and] at e6
                      refine ⟨cellList Le.ks.length l.length g, cellList_length, .inr ⟨_, e6.1, fun j u hj => ?_⟩, fun i j hi hj => by rw [cellList_getD hi hj]; exact (hg i j hi hj).2, hsh'⟩
                      obtain ⟨c1, c2, c3, c4⟩ := cellList_get hj
                      rw [addr_add, c3]
                      have := (hg _ _ c1 c2).1
                      rw [Nat.add_assoc, ← c4] at this
                      exact this
                  have hnews : ∀ j u, (cellList Le.ks.length l'.length f)[j]? = some u → w.cell? ((⟨b, off, none⟩ : Addr).add j) = some u := fun j u hj => by
                    obtain ⟨c1, c2, c3, c4⟩ := cellList_get hj
                    rw [addr_add, c3]
                    have := (hf _ _ c1 c2).1
                    rw [Nat.add_assoc, ← c4] at this
                    exact this
                  obtain ⟨x', w', r1, r2, r3, r4⟩ := append_full (P := P) (w := w) (ty := o.type) (ad0 := ad0) (ad := ⟨b, off, none⟩) (m := l'.length) (c := cap) (news := cellList Le.ks.length l'.length f) (n := l.length) (xs := xs) h1 i1 i4 (by omega) (by rw [i2]; exact hxs) hold b0 (by rw [i2]; exact cellList_length) hnews b2 (by rw [i3]; exact b1)
                  obtain ⟨cs, e5⟩ := builtin_run (P := P) (a := a) ho hc w
                  have hrun : (execOp a.eval o).run P w = .ok (.value x') w' := by
                    rw [e5]
                    simp [builtin, e1, e2, ex, ey, r1]
                  unfold Oper.wp
                  rw [hrun]
                  refine hK (E.withRow (cx.off + d) x') _ _ ?_
                  rw [hdst]
                  rw [i2] at r2
                  have hno : ∀ k, (none : Option Nat) = some k → ¬ E.I k := fun k hk => by cases hk
                  exact h.row (row := none) rfl (fun _ => rfl) (hc1.imp (fun h => ⟨h, rfl⟩) (fun h => h)) r3 (fun k hk => by cases hk) (fun b hb => ⟨(r4 b hb).1, .inr (r4 b hb).2⟩) (fun e he => (List.mem_append.1 he).elim (hshl e) (hsh e)) (by rw [List.length_append]; exact r2)
                    (elcell l xs _ w' (fun i j hi hj => keepI r3 hno (hxc i j hi hj)) (fun i j hi hj => keepI r3 hno (by rw [cellList_getD hi hj]; exact (hf i j hi hj).2)) hxs) (fun k hk => dOk_lt hd k (by rw [hdst]; exact hk))
          · exact hob.elim
    · exact hob.elim
  · exact hob.elim
end
end Go.Rx

/- The framework, part 13: literals, slices of slices, conversions. -/
namespace Go.Rx
set_option linter.unusedSectionVars false
open Go.RowKit

section
variable {cx : Cx} {P : Program} [Laid P] {B : Nat} {M I0 : Nat → Prop} {G : Nat → Value} {w0 : World} {E : Env} {s : St} {a : Act} {w : World} {o : Oper} {K : Act → World → Prop} {Q : Exit → Act → World → Prop}

/-- One part of a literal, laid. -/
def layAt (off : Nat) : List Value → Array Value → Nat → Array Value
  | [], cs, _ => cs
  | v :: r, cs, j => layAt off r (cs.setIfInBounds (off + j) v) (j + 1)

theorem layAt_eq (off : Nat) : ∀ (vs : List Value) (cs : Array Value) (j : Nat), (vs.zipIdx j).foldl (fun cs (p : Value × Nat) => cs.setIfInBounds (off + p.2) p.1) cs = layAt off vs cs j
  | [], _, _ => rfl
  | v :: r, cs, j => by simp only [List.zipIdx_cons, List.foldl_cons, layAt]; exact layAt_eq off r _ _
theorem layAt_size (off : Nat) : ∀ (vs : List Value) (cs : Array Value) (j : Nat), (layAt off vs cs j).size = cs.size
  | [], _, _ => rfl
  | v :: r, cs, j => by simp [layAt, layAt_size off r]
theorem layAt_getD (off : Nat) : ∀ (vs : List Value) (cs : Array Value) (j i : Nat), off + j + vs.length ≤ cs.size → (layAt off vs cs j).getD i undef = if off + j ≤ i ∧ i < off + j + vs.length then vs.getD (i - (off + j)) undef else cs.getD i undef
  | [], cs, j, i, _ => by simp only [layAt, List.length_nil]; rw [if_neg (by omega)]
  | v :: r, cs, j, i, h => by
    simp only [List.length_cons] at h
    rw [layAt, layAt_getD off r _ _ _ (by simp; omega)]
    by_cases h1 : i = off + j
    · subst h1
      rw [if_neg (by omega), if_pos (by simp)]
      simp only [Array.getD_eq_getD_getElem?, Array.getElem?_setIfInBounds]
      have : off + j < cs.size := by omega
      simp [this]
    · by_cases h2 : off + (j + 1) ≤ i ∧ i < off + (j + 1) + r.length
      · rw [if_pos h2, if_pos (by simp; omega)]
        have : i - (off + j) = (i - (off + (j + 1))) + 1 := by omega
        rw [this, List.getD_cons_succ]
      · rw [if_neg h2, if_neg (by simp; omega)]
        simp only [Array.getD_eq_getD_getElem?, Array.getElem?_setIfInBounds]
        rw [if_neg (by omega)]

theorem fill_cons (place : Nat → Option (Nat × Nat)) (cells : Array Value) (i : Nat) (v : Value) (rest : List (Nat × Value)) {off size : Nat} (hp : place i = some (off, size)) (h1 : v.cells.size = size) (h2 : off + size ≤ cells.size) :
    Instr.fill place cells ((i, v) :: rest) = Instr.fill place (layAt off v.cells.toList cells 0) rest := by
  have e : v.cells.zipIdx.foldl (fun (cs : Array Value) (x : Value × Nat) => cs.setIfInBounds (off + x.2) x.1) cells = layAt off v.cells.toList cells 0 := by
    rw [← layAt_eq, ← Array.foldl_toList]
    simp
  simp only [Instr.fill, hp]
  rw [if_neg (by simp [h1]; omega)]
  congr 1

/-- The parts of a literal. -/
theorem fillS_run (h : Rel P cx.nt B M I0 G w0 E s a w) (place place' : Nat → Option (Nat × Nat)) (hpl : ∀ i p, place i = some p → place' i = some p) : ∀ (ps : List (Nat × Operand)) (cs cs' : List SV) (xs : Array Value), fillS s.mem (ev s.tm) place ps cs = some cs' → xs.size = cs.length → (∀ i, CV E (lkO s.mem) w (xs.getD i undef) (cs.getD i .any)) →
    ∃ xs', Instr.fill place' xs (ps.map fun p => (p.1, a.eval p.2)) = some xs' ∧ xs'.size = cs'.length ∧ ∀ i, CV E (lkO s.mem) w (xs'.getD i undef) (cs'.getD i .any)
  | [], cs, cs', xs, hf, hs, hx => by
    simp only [fillS, Option.some.injEq] at hf
    subst hf
    exact ⟨xs, rfl, hs, hx⟩
  | (i, y) :: r, cs, cs', xs, hf, hs, hx => by
    simp only [fillS] at hf
    cases hp : place i with
    | none => simp only [hp] at hf; cases hf
    | some p =>
      obtain ⟨off, sz⟩ := p
      simp only [hp] at hf
      cases q1 : Nat.beq (ev s.tm y).cells.length sz <;> cases q2 : cellsB s.mem (ev s.tm y) <;> cases q3 : Nat.ble (off + sz) cs.length <;> simp only [q1, q2, q3, reduceCtorEq] at hf
      have q1 := Nat.eq_of_beq_eq_true q1
      have q3 := Nat.le_of_ble_eq_true q3
      obtain ⟨y1, y2⟩ := cells_cv h.ch (h.eval y) q2
      have hsz : (a.eval y).cells.size = sz := by omega
      rw [List.map_cons, fill_cons place' xs i (a.eval y) _ (hpl _ _ hp) hsz (by omega)]
      refine fillS_run h place place' hpl r _ cs' _ hf (by rw [layAt_size, setL_length]; exact hs) (fun k => ?_)
      rw [layAt_getD _ _ _ _ _ (by simp; omega), setL_getD _ _ _ _ (by omega)]
      by_cases hk : off + 0 ≤ k ∧ k < off + 0 + (a.eval y).cells.toList.length
      · rw [if_pos hk, if_pos (by simp at hk; omega)]
        have := y2 (k - off)
        simpa [Array.getD_eq_getD_getElem?, List.getD_eq_getElem?_getD] using this
      · rw [if_neg hk, if_neg (by simp at hk; omega)]
        exact hx k

theorem run_places {fl : List (Nat × Nat)} {fs : Array Field} (h : ∀ (i : Nat) (f : Field), fs[i]? = some f → fl[i]? = some (f.offset, f.type) ∧ ∃ inf, P.info? f.type = some inf ∧ inf.size ≠ 0) :
    (fs.mapM fun f => (do pure (f.offset, ← sizeOf f.type) : Sem (Nat × Nat))).run P w = .ok (fs.map fun f => (f.offset, P.cellsOf f.type)) w := by
  rw [Array.mapM_eq_mapM_toList]
  have key : ∀ (l : List Field), (∀ f, f ∈ l → ∃ inf, P.info? f.type = some inf) → (l.mapM fun f => (do pure (f.offset, ← sizeOf f.type) : Sem (Nat × Nat))).run P w = .ok (l.map fun f => (f.offset, P.cellsOf f.type)) w := by
    intro l
    induction l with
    | nil => intro _; rfl
    | cons f r ih =>
      intro hl
      obtain ⟨inf, hi⟩ := hl f (List.mem_cons_self ..)
      have ih' := ih (fun g hg => hl g (List.mem_cons_of_mem _ hg))
      have hc : P.cellsOf f.type = inf.size := by simp [Program.cellsOf, hi]
      simp only [List.mapM_cons, Sem.run_bind, run_size hi, Result.andThen_ok, Sem.run_pure, ih', List.map_cons, hc]
  rw [Sem.run_map, key fs.toList (fun f hf' => by
    obtain ⟨i, hi⟩ := List.getElem?_of_mem hf'
    obtain ⟨_, inf, h1, _⟩ := h i f (by simpa using hi)
    exact ⟨inf, h1⟩)]
  rw [Result.andThen_ok]
  congr 1
  apply Array.ext'
  simp

theorem sound_build (hP : CxOk P cx) {t : Nat} {ps : Array (Nat × Operand)} (ho : o.op = .build t ps) : Sound cx P o := by
  intro B M I0 G w0 E s a w K Q h hd hob hK
  have e : opx cx s.mem (ev s.tm) o = opE cx s.mem (ev s.tm) o.dst (.build t ps) := by simp [opx, ho]
  rw [e] at hob hK
  simp only [opE] at hob hK
  cases ht : tyOf cx t with
  | none => rw [ht] at hob; exact hob.elim
  | some L =>
    have hL := tyRun hP ht
    obtain ⟨d, h1, h2⟩ := hL.desc
    obtain ⟨inf, z, i1, i2, i3, i4, i5, i6, i7⟩ := hL.info
    simp only [ht] at hob hK
    have hparts : (ps.map fun p => (p.1, a.eval p.2)).toList = ps.toList.map fun p => (p.1, a.eval p.2) := by simp
    cases hk : L.k <;> simp only [hk] at hob hK h2 <;> try exact hob.elim
    · rename_i fl
      obtain ⟨fs, rfl, h3, h4⟩ := TkOk_struct h2
      split at hob
      · rename_i cs hcs
        simp only [hcs] at hK
        have hpl : ∀ (i : Nat) (p : Nat × Nat), (match fl[i]? with | some (o, ft) => (match tyOf cx ft with | some Lf => some (o, Lf.ks.length) | none => none) | none => none) = some p → (fs.map fun f => (f.offset, P.cellsOf f.type))[i]? = some p := by
          intro i p hp
          cases hq : fl[i]? with
          | none => simp only [hq] at hp; cases hp
          | some q =>
            obtain ⟨o', ft⟩ := q
            simp only [hq] at hp
            cases hft : tyOf cx ft with
            | none => simp only [hft] at hp; cases hp
            | some Lf =>
              simp only [hft, Option.some.injEq] at hp
              subst hp
              have hlt : i < fs.size := by have := (List.getElem?_eq_some_iff.1 hq).1; omega
              have hfs : fs[i]? = some fs[i] := Array.getElem?_eq_getElem hlt
              obtain ⟨q1, inf', q2, q3⟩ := h4 i _ hfs
              rw [hq] at q1
              simp only [Option.some.injEq, Prod.mk.injEq] at q1
              obtain ⟨inf2, _, j1, j2, _⟩ := (tyRun hP hft).info
              have j1' : P.info? fs[i].type = some inf2 := by rw [← q1.2]; exact j1
              simp only [Array.getElem?_map, hfs, Option.map_some, Program.cellsOf, j1', Option.getD_some, j2, q1.1]
        obtain ⟨xs', r1, r2, r3⟩ := fillS_run h _ (fun i => (fs.map fun f => (f.offset, P.cellsOf f.type))[i]?) hpl ps.toList L.zero cs z.cells hcs (by omega) (fun i => .conc _ _ (i7 _ _ i))
        refine op_val h hd (x := .agg xs') ?_ (.agg xs' cs r2 r3) hK
        simp only [execOp, ho, Instr.build, Sem.run_bind, run_zero i1 i4, Result.andThen_ok, run_underlying h1, run_places h4, hparts, r1, Sem.run_pure]
      · exact hob.elim
    · rename_i len et
      have := TkOk_arr h2
      subst this
      cases he : tyOf cx et with
      | none => rw [he] at hob; exact hob.elim
      | some Le =>
        obtain ⟨inf2, _, j1, j2, _⟩ := (tyRun hP he).info
        simp only [he] at hob hK
        split at hob
        · rename_i cs hcs
          simp only [hcs] at hK
          obtain ⟨xs', r1, r2, r3⟩ := fillS_run h _ (fun i => some (i * inf2.size, inf2.size)) (fun i p hp => by rw [j2]; exact hp) ps.toList L.zero cs z.cells hcs (by omega) (fun i => .conc _ _ (i7 _ _ i))
          refine op_val h hd (x := .agg xs') ?_ (.agg xs' cs r2 r3) hK
          simp only [execOp, ho, Instr.build, Sem.run_bind, run_zero i1 i4, Result.andThen_ok, run_underlying h1, run_size j1, hparts, r1, Sem.run_pure]
        · exact hob.elim

theorem kBs_get {m : List (Nat × Chunk)} : ∀ {ks : List CK} {vs : List SV}, kBs ks vs = true → vs.length = ks.length ∧ ∀ j, j < ks.length → kB (ks.getD j .other) (vs.getD j .any) = true
  | [], [], _ => ⟨rfl, fun j hj => by simp at hj⟩
  | k :: r, v :: s, h => by
    simp only [kBs, Bool.and_eq_true] at h
    obtain ⟨h1, h2⟩ := kBs_get (m := m) h.2
    refine ⟨by simp [h1], fun j hj => ?_⟩
    cases j with
    | zero => simpa using h.1
    | succ j => simpa using h2 j (by simpa using hj)
  | [], _ :: _, h => by simp [kBs] at h
  | _ :: _, [], h => by simp [kBs] at h

theorem kB_ok {k : CK} {v : SV} (h : kB k v = true) : kOk k v ∧ closed v = true ∧ ∀ m, oneB m v = true := by
  cases k <;> cases v <;> simp only [kB, reduceCtorEq, decide_eq_true_eq] at h
  · subst h; exact ⟨⟨_, rfl⟩, rfl, fun _ => rfl⟩
  · exact ⟨.inr (.inr ⟨_, rfl⟩), rfl, fun _ => rfl⟩
  · exact ⟨.inl rfl, rfl, fun _ => rfl⟩
  · exact ⟨.inr (.inl rfl), rfl, fun _ => rfl⟩
  · exact ⟨⟨_, rfl⟩, rfl, fun _ => rfl⟩
  · exact ⟨⟨_, rfl⟩, rfl, fun _ => rfl⟩
  · exact ⟨⟨_, _, rfl⟩, rfl, fun _ => rfl⟩
  · have := cksEq_eq _ _ h
    subst this
    exact ⟨.inr ⟨_, rfl⟩, rfl, fun _ => rfl⟩
  · exact ⟨.inl rfl, rfl, fun _ => rfl⟩

theorem kBs_cells {m : List (Nat × Chunk)} {ks : List CK} {v : SV} (h : kBs ks v.cells = true) : cellsB m v = true ∧ shOk ks v := by
  obtain ⟨h1, h2⟩ := kBs_get (m := m) h
  refine ⟨?_, h1, fun j hj => (kB_ok (h2 j hj)).1⟩
  by_cases hv : ∃ cs, v = .agg cs
  · obtain ⟨cs, rfl⟩ := hv; rfl
  · have e : v.cells = [v] := by cases v <;> first | rfl | (exact absurd ⟨_, rfl⟩ hv)
    have e2 : cellsB m v = oneB m v := by cases v <;> first | rfl | (exact absurd ⟨_, rfl⟩ hv)
    rw [e] at h1 h2
    have := (kB_ok (h2 0 (by simp at h1; omega))).2.2 m
    rw [e2]; simpa using this

theorem kBsL_get {ks : List CK} : ∀ {l : List SV}, kBsL ks l = true → ∀ v, v ∈ l → kBs ks v.cells = true
  | [], _, v, hv => by cases hv
  | x :: r, h, v, hv => by
    simp only [kBsL, Bool.and_eq_true] at h
    rcases List.mem_cons.1 hv with rfl | hv
    · exact h.1
    · exact kBsL_get h.2 v hv

/-- A slice literal's cells. -/
theorem fillRow {n sz : Nat} (e : Operand → Value) : ∀ (ps : List (Nat × Operand)) (k : Nat) (xs : Array Value), (∀ j p, ps[j]? = some p → p.1 = k + j) → (∀ p, p ∈ ps → (e p.2).cells.size = sz) → (k + ps.length) * sz ≤ xs.size →
    ∃ xs', Instr.fill (fun i => some (i * sz, sz)) xs (ps.map fun p => (p.1, e p.2)) = some xs' ∧ xs'.size = xs.size ∧ (∀ q, q < k * sz → xs'.getD q undef = xs.getD q undef) ∧
      ∀ i j p, ps[i]? = some p → j < sz → xs'.getD ((k + i) * sz + j) undef = (e p.2).cells.getD j undef
  | [], k, xs, _, _, _ => ⟨xs, rfl, rfl, fun _ _ => rfl, fun i j p hp => by simp at hp⟩
  | p :: r, k, xs, hp, hs, hn => by
    have h0 : p.1 = k := by simpa using hp 0 p rfl
    have hsz := hs p (List.mem_cons_self ..)
    simp only [List.length_cons] at hn
    have hle : k * sz + sz ≤ xs.size := by
      have : (k + 1) * sz ≤ (k + (r.length + 1)) * sz := Nat.mul_le_mul_right _ (by omega)
      rw [Nat.add_mul, Nat.one_mul] at this
      omega
    obtain ⟨xs', q1, q2, q3, q4⟩ := fillRow (n := n) e r (k + 1) (layAt (p.1 * sz) (e p.2).cells.toList xs 0) (fun j p' hj => by have := hp (j + 1) p' (by simpa using hj); omega) (fun p' hp' => hs p' (List.mem_cons_of_mem _ hp')) (by rw [layAt_size, show k + 1 + r.length = k + (r.length + 1) by omega]; exact hn)
    refine ⟨xs', ?_, by rw [q2, layAt_size], fun q hq => ?_, fun i j p' hp' hj => ?_⟩
    · rw [List.map_cons, fill_cons _ xs p.1 (e p.2) _ rfl hsz (by rw [h0]; exact hle)]
      exact q1
    · rw [q3 q (by rw [Nat.add_mul]; omega), layAt_getD _ _ _ _ _ (by rw [h0]; simp; omega), if_neg (by rw [h0]; omega)]
    · cases i with
      | zero =>
        simp only [List.getElem?_cons_zero, Option.some.injEq] at hp'
        subst hp'
        rw [q3 _ (by rw [Nat.add_zero, Nat.add_mul, Nat.one_mul]; omega), layAt_getD _ _ _ _ _ (by rw [h0]; simp; omega), if_pos (by rw [h0]; simp; omega)]
        rw [h0]
        have : (k + 0) * sz + j - (k * sz + 0) = j := by rw [Nat.add_zero]; omega
        rw [this]
        simp [Array.getD_eq_getD_getElem?, List.getD_eq_getElem?_getD]
      | succ i =>
        have := q4 i j p' (by simpa using hp') hj
        rw [show k + (i + 1) = k + 1 + i by omega]
        exact this

theorem zipIdx_all {ps : List (Nat × Operand)} (h : (ps.zipIdx.all fun (p, i) => Nat.beq p.1 i) = true) : ∀ (j : Nat) (p : Nat × Operand), ps[j]? = some p → p.1 = 0 + j := by
  intro j p hp
  rw [List.all_eq_true] at h
  have := h (p, j) (by
    rw [List.mem_iff_getElem?]
    exact ⟨j, by simp [List.getElem?_zipIdx, hp]⟩)
  have := Nat.eq_of_beq_eq_true this
  omega

theorem sound_buildSlice (hP : CxOk P cx) {t n : Nat} {ps : Array (Nat × Operand)} (ho : o.op = .buildSlice t n ps) : Sound cx P o := by
  intro B M I0 G w0 E s a w K Q h hd hob hK
  have e : opx cx s.mem (ev s.tm) o = opE cx s.mem (ev s.tm) o.dst (.buildSlice t n ps) := by simp [opx, ho]
  rw [e] at hob hK
  simp only [opE] at hob hK
  cases hdst : o.dst with
  | none => simp only [hdst] at hob; exact hob.elim
  | some d =>
    simp only [hdst] at hob hK
    cases ht : tyOf cx t with
    | none => simp only [ht] at hob; exact hob.elim
    | some L =>
      simp only [ht] at hob hK
      obtain ⟨dd, h1, h2⟩ := (tyRun hP ht).desc
      cases hk : L.k <;> simp only [hk] at hob hK h2 <;> try exact hob.elim
      rename_i et
      have := TkOk_sl h2
      subst this
      cases hte : tyOf cx et with
      | none => simp only [hte] at hob; exact hob.elim
      | some Le =>
        simp only [hte] at hob hK
        obtain ⟨inf, z, i1, i2, i3, i4, i5, i6, i7⟩ := (tyRun hP hte).info
        cases hfree : lkO s.mem (cx.off + d) with
        | some _ => simp only [hfree] at hob; exact hob.elim
        | none =>
          cases q1 : kBsL Le.ks (resolveL s.mem (ps.toList.map fun x => ev s.tm x.2)) with
          | false => simp only [hfree, q1] at hob; exact hob.elim
          | true =>
            cases q2 : (Nat.beq n (resolveL s.mem (ps.toList.map fun x => ev s.tm x.2)).length && Nat.ble (n * Le.ks.length) 16777216 && Nat.blt 0 Le.ks.length) with
            | false => simp only [hfree, q1, q2] at hob; exact hob.elim
            | true =>
              cases q3 : (ps.toList.zipIdx.all fun (x : (Nat × Operand) × Nat) => Nat.beq x.1.1 x.2) with
              | false => simp only [hfree, q1, q2, q3] at hob; exact hob.elim
              | true =>
                simp only [hfree, q1, q2, q3] at hK
                simp only [Bool.and_eq_true] at q2
                obtain ⟨⟨q4, q5⟩, q6⟩ := q2
                have q4 := Nat.eq_of_beq_eq_true q4
                have q5 := Nat.le_of_ble_eq_true q5
                have q6 : 0 < Le.ks.length := by simpa [Nat.blt_eq] using q6
                rw [resolveL_length, List.length_map] at q4
                generalize hl0 : (ps.toList.map fun x => ev s.tm x.2) = l0 at q1 hK
                -- what goes with it is written no more
                obtain ⟨E', s', f1, f2, f3, f4, f5⟩ := h.freeze (namesL l0) s.mem (fun _ _ => .inl rfl)
                have hfz := frozen_of f3
                have hlen : l0.length = ps.toList.length := by rw [← hl0]; simp
                have helem : ∀ (i : Nat) (p : Nat × Operand), ps.toList[i]? = some p → (a.eval p.2).cells.size = Le.ks.length ∧ shOk Le.ks ((resolveL s.mem l0).getD i .any) ∧ ∀ j, j < Le.ks.length → Conc E'.I w ((a.eval p.2).cells.getD j undef) (((resolveL s.mem l0).getD i .any).cells.getD j .any) := by
                  intro i p hp
                  have hi : i < l0.length := by rw [hlen]; exact (List.getElem?_eq_some_iff.1 hp).1
                  have hcv : CV E' (lkO s'.mem) w (a.eval p.2) (l0.getD i .any) := by
                    have := f1.eval p.2
                    rw [f2] at this
                    rw [← hl0, List.getD_eq_getElem?_getD, List.getElem?_map, hp]
                    exact this
                  have hcv2 := resolveL_cv f1.ch l0 hfz i _ hcv
                  have hmem : (resolveL s.mem l0).getD i .any ∈ resolveL s.mem l0 := by
                    have hi' : i < (resolveL s.mem l0).length := by rw [resolveL_length]; exact hi
                    rw [List.getD_eq_getElem?_getD, List.getElem?_eq_getElem hi']
                    exact List.getElem_mem hi'
                  have hkb := kBsL_get q1 _ hmem
                  obtain ⟨c1, c2⟩ := kBs_cells (m := s'.mem) hkb
                  obtain ⟨d1, d2⟩ := cells_cv f1.ch hcv2 c1
                  refine ⟨by rw [d1, c2.1], c2, fun j hj => ?_⟩
                  exact closed_conc _ _ (kB_ok ((kBs_get (m := s'.mem) hkb).2 j hj)).2.1 (d2 j)
                have hz0 : ¬ n * inf.size > 2 ^ 24 := by rw [i2]; omega
                have hzero : ((Array.range (n * inf.size)).map (fun i => z.cells[i % z.cells.size]!)).size = n * inf.size := by simp
                obtain ⟨xs', r1, r2, _, r4⟩ := fillRow (n := n) (sz := inf.size) a.eval ps.toList 0 ((Array.range (n * inf.size)).map (fun i => z.cells[i % z.cells.size]!)) (zipIdx_all q3) (fun p hp => by
                  obtain ⟨i, hi⟩ := List.getElem?_of_mem hp
                  rw [i2]; exact (helem i p hi).1) (by rw [hzero, q4]; simp)
                have hrun : (execOp a.eval o).run P w = .ok (.value (.slice (some ⟨w.heap.size, 0, none⟩) n n)) (w.alloc (.cells xs' et)) := by
                  have hparts : (ps.map fun p => (p.1, a.eval p.2)).toList = ps.toList.map fun p => (p.1, a.eval p.2) := by simp
                  simp only [execOp, ho, Instr.buildSlice, Sem.run_bind, run_underlying h1, Result.andThen_ok, run_size i1]
                  rw [if_neg hz0]
                  by_cases h0 : n * inf.size = 0
                  · rw [if_pos h0]
                    have e0 : ((Array.range (n * inf.size)).map (fun i => z.cells[i % z.cells.size]!)) = ((Array.range (n * inf.size)).map (fun i => (#[] : Array Value)[i % (#[] : Array Value).size]!)) := by rw [h0]; simp
                    rw [e0] at r1
                    simp only [Sem.run_bind, Sem.run_pure, Result.andThen_ok, hparts, r1, run_newRow']
                  · rw [if_neg h0]
                    simp only [Sem.run_bind, Sem.run_pure, Result.andThen_ok, hparts, run_zero i1 i4, r1, run_newRow']
                have hres := f1.row (c := cx.off + d) (ver := 0) (e := et) (ks := Le.ks) (l := resolveL s.mem l0) (x := .slice (some ⟨w.heap.size, 0, none⟩) n n) (w' := w.alloc (.cells xs' et)) (row := none) (fz := []) (d := some d) rfl (fun _ => rfl)
                  (.inl ⟨by
                    rw [f3]
                    have : lkO (freezes s.mem (namesL l0)) (cx.off + d) = none := freezes_none (fun v e ks l hh => by rw [hfree] at hh; cases hh) _
                    rw [this]; exact hfree, rfl⟩) ⟨rfl, rfl, rfl, by simp, fun k hk _ => heap_push w _ k hk⟩ (fun k hk => by cases hk) (fun b hb => by
                    simp only [Value.ownBlock, Option.some.injEq] at hb
                    subst hb
                    exact ⟨by simp, .inr (Nat.le_refl _)⟩) (fun v hv => (kBs_cells (m := s.mem) (kBsL_get q1 v hv)).2) (xs := xs'.toList) ?_ ?_ (fun k hk => dOk_lt hd k (by rw [hdst]; exact hk))
                · unfold Oper.wp
                  rw [hrun]
                  refine hK (E'.withRow (cx.off + d) (.slice (some ⟨w.heap.size, 0, none⟩) n n)) _ _ ?_
                  rw [hdst]
                  refine hres.congr (fun t => by simp only [upd, f2]) (fun c => ?_)
                  simp only [upd]
                  rw [List.cons_append, lkO_cons, List.singleton_append, lkO_cons, lkO_append, f3]
                  split
                  · rfl
                  · cases lkO (freezes s.mem (namesL l0)) c <;> rfl
                · have : (resolveL s.mem l0).length = n := by rw [resolveL_length, hlen, q4]
                  rw [this, ← i2]
                  exact World.ownsRow_lit w xs' n (Nat.zero_le _) (by simp only [maxLen]; have : n * 1 ≤ n * Le.ks.length := Nat.mul_le_mul_left _ q6; omega) (by rw [r2, hzero])
                · intro i j hi hj
                  have hi' : i < ps.toList.length := by rw [resolveL_length, hlen] at hi; exact hi
                  have hp := List.getElem?_eq_getElem hi'
                  have := r4 i j _ hp (by rw [i2]; exact hj)
                  rw [Nat.zero_add, i2] at this
                  have e5 : xs'.toList.getD (i * Le.ks.length + j) undef = xs'.getD (i * Le.ks.length + j) undef := by simp [List.getD_eq_getElem?_getD, Array.getD_eq_getD_getElem?]
                  rw [e5, this]
                  have := (helem i _ hp).2.2 j hj
                  exact this.mono (fun _ h => h) (fun b hb => heap_push w _ b (f1.inew b hb).1)

theorem freezes_notin {m : List (Nat × Chunk)} {c : Nat} : ∀ {cs : List Nat}, c ∉ cs → lkO (freezes m cs) c = none
  | [], _ => rfl
  | d :: r, h => by
    have ih := freezes_notin (m := m) (cs := r) (c := c) (fun hc => h (List.mem_cons_of_mem _ hc))
    simp only [freezes]
    split
    · rw [lkO_cons, if_neg (fun (e : d = c) => h (by subst e; exact List.mem_cons_self ..))]; exact ih
    · exact ih
theorem resolve_cells (m : List (Nat × Chunk)) : ∀ v : SV, (resolve m v).cells = resolveL m v.cells
  | .osl c ver => by
    simp only [SV.cells, resolveL, resolve]
    cases lkO m c with
    | none => rfl
    | some ch =>
      cases ch with
      | row v e ks l => cases hb : Nat.beq v ver <;> simp only [hb]
      | froz v ks l => cases hb : Nat.beq v ver <;> simp only [hb]
      | _ => rfl
  | .agg cs => rfl
  | .tup cs => rfl
  | .fn f cs => rfl
  | .any => rfl
  | .und => rfl
  | .int _ _ => rfl
  | .bool _ => rfl
  | .tt => rfl
  | .ff => rfl
  | .str _ => rfl
  | .flt _ => rfl
  | .cpx _ _ => rfl
  | .ptr _ _ => rfl
  | .ptx _ _ => rfl
  | .rptr _ _ _ _ _ => rfl
  | .sl _ _ => rfl
  | .ep _ _ _ _ => rfl
  | .oep _ _ _ _ _ => rfl
  | .nb _ => rfl
  | .fsl _ _ => rfl
  | .own _ _ _ => rfl
  | .lp _ _ => rfl
  | .mpp _ => rfl
  | .itp _ => rfl
  | .otl _ _ _ _ => rfl
  | .nilsl => rfl
  | .nilp => rfl

theorem sound_store (hP : CxOk P cx) {t : Nat} {y z : Operand} (ho : o.op = .store t y z) : Sound cx P o := by
  intro B M I0 G w0 E s a w K Q h hd hob hK
  have e : opx cx s.mem (ev s.tm) o = opE cx s.mem (ev s.tm) o.dst (.store t y z) := by simp [opx, ho]
  rw [e] at hob hK
  simp only [opE] at hob hK
  have hy := h.eval y
  have hz := h.eval z
  cases ht : tyOf cx t with
  | none => rw [ht] at hob; exact hob.elim
  | some L =>
    have hL := tyRun hP ht
    obtain ⟨inf, zv, i1, i2, _⟩ := hL.info
    simp only [ht] at hob hK
    cases q1 : Nat.beq (ev s.tm z).cells.length L.ks.length <;> cases q2 : cellsB s.mem (ev s.tm z) <;> cases q3 : oneL s.mem (ev s.tm z).cells <;> simp only [q1, q2, q3] at hob hK <;> try exact hob.elim
    have q1' := Nat.eq_of_beq_eq_true q1
    obtain ⟨z1, z2⟩ := cells_cv h.ch hz q2
    have z3 : ∀ v ∈ (a.eval z).cells.toList, v.oneCell' = true := oneL_one h.ch _ _ (by simpa using z1) q3 (fun i => by simpa [Array.getD_eq_getD_getElem?, List.getD_eq_getElem?_getD] using z2 i)
    -- the store itself
    have main : ∀ (c b off bt : Nat) (cs : List SV), roK c = false → a.eval y = .pointer (some ⟨b, off, none⟩) → lkO s.mem c = some (.box bt cs) → E.loc c = some b → off + L.ks.length ≤ cs.length →
        (∀ E' a' w', Rel P cx.nt B M I0 G w0 E' (upd s o.dst .und [(c, .box bt (setL cs off (ev s.tm z).cells))]) a' w' → K a' w') → Oper.wp P o a w K Q := by
      intro c b off bt cs hro e1 hm hl hn hK
      obtain ⟨xs, h1, h2, h3⟩ := h.boxAt hm hl
      have hrun : (execOp a.eval o).run P w = .ok .skip (w.setRow b (xs.toList.take off ++ (a.eval z).cells.toList ++ xs.toList.drop (off + (a.eval z).cells.size)).toArray) := by
        have hst := run_storeCells_at P b off bt (a.eval z).cells.toList 0 xs w h1 (by simp; omega) z3
        simp only [Nat.add_zero, Array.length_toList] at hst
        simp only [execOp, ho, Instr.storeAt, storeVar, e1, Instr.sureAddr, Sem.run_bind, Sem.run_pure, Result.andThen_ok, run_size i1]
        rw [Sem.run_ite, if_neg (by omega), hst]
        rfl
      unfold Oper.wp
      rw [hrun]
      have hheap := setRow_heap w b xs (xs.toList.take off ++ (a.eval z).cells.toList ++ xs.toList.drop (off + (a.eval z).cells.size)).toArray bt (0, 0) h1
      refine hK E _ _ (h.store (x := undef) (v := .und) hro hm hl ?_ ?_ (dOk_lt hd) (.conc _ _ .und) hheap (fun k hk => setRow_other _ _ _ _ hk) (by simp [World.setRow]) ⟨rfl, rfl, rfl⟩)
      · rw [setL_length]; simp; omega
      · intro i
        rw [storeRow_getD _ _ _ _ (by omega), setL_getD _ _ _ _ (by omega)]
        by_cases hi : off ≤ i ∧ i < off + (a.eval z).cells.size
        · rw [if_pos hi, if_pos (by omega)]; exact z2 _
        · rw [if_neg hi, if_neg (by omega)]; exact h3 i
    cases hv : ev s.tm y with
    | ptr c off =>
      rw [hv] at hy
      simp only [hv] at hob hK
      obtain ⟨b, bt, cs, e1, hm, hl⟩ := hy.inv_ptr
      simp only [hm] at hob hK
      cases hb : (Nat.ble (off + L.ks.length) cs.length && !(roK c)) with
      | false => simp only [hb] at hob; exact hob.elim
      | true =>
        simp only [hb] at hK
        simp only [Bool.and_eq_true, Bool.not_eq_true'] at hb
        exact main c b off bt cs hb.2 e1 hm hl (Nat.le_of_ble_eq_true hb.1) hK
    | ptx c off =>
      rw [hv] at hy
      simp only [hv] at hob hK
      obtain ⟨b, bt, cs, e1, hm, hl⟩ := hy.inv_ptx
      simp only [hm] at hob hK
      cases hro : roK c with
      | true => simp only [hro] at hob; exact hob.elim
      | false =>
        simp only [hro] at hob hK
        exact main c b off bt cs hro e1 hm hl hob.out hK
    | rptr c sz i off ver =>
      rw [hv] at hy
      simp only [hv] at hob hK
      cases hm : lkO s.mem c with
      | none => simp only [hm] at hob; exact hob.elim
      | some ch =>
        cases ch with
        | gh => simp only [hm] at hob; exact hob.elim
        | mp => simp only [hm] at hob; exact hob.elim
        | it => simp only [hm] at hob; exact hob.elim
        | box => simp only [hm] at hob; exact hob.elim
        | froz => simp only [hm] at hob; exact hob.elim
        | row v e ks l =>
          simp only [hm] at hob hK
          cases hq : (Nat.beq v ver && Nat.beq sz ks.length && cksEq ((ks.drop off).take L.ks.length) L.ks && kBs L.ks (resolveL s.mem (ev s.tm z).cells) && Nat.blt 0 L.ks.length && !((names (ev s.tm z)).contains c)) with
          | false => simp only [hq] at hob; exact hob.elim
          | true =>
            simp only [hq] at hob hK
            simp only [Bool.and_eq_true] at hq
            obtain ⟨⟨⟨⟨⟨p1, p2⟩, p3⟩, p4⟩, p5⟩, p6⟩ := hq
            have p1 := Nat.eq_of_beq_eq_true p1
            have p2 := Nat.eq_of_beq_eq_true p2
            have p3 := cksEq_eq _ _ p3
            rw [Nat.blt_eq] at p5
            obtain ⟨k1, k2⟩ := kBs_get7 p4
            obtain ⟨hi⟩ := hob
            subst p2
            -- what goes into it is written no more
            obtain ⟨E', s', f1, f2, f3, f4, f5⟩ := h.freeze (names (ev s.tm z)) s.mem (fun _ _ => .inl rfl)
            have hm0 := hm
            have hm : lkO s'.mem c = some (.row v e ks l) := by
              rw [f3, freezes_notin (by simpa using p6), hm0]
            have hcvz : CV E' (lkO s'.mem) w (a.eval z) (resolve s.mem (ev s.tm z)) := resolve_cv f1.ch _ _ (frozen_of f3) (by have := f1.eval z; rw [f2] at this; exact this)
            have hrc : resolveL s.mem (ev s.tm z).cells = (resolve s.mem (ev s.tm z)).cells := (resolve_cells _ _).symm
            have hy : CV E' (lkO s'.mem) w (a.eval y) (.rptr c ks.length i off ver) := by have := f1.eval y; rw [f2, hv] at this; exact this
            have z2 : ∀ i, CV E' (lkO s'.mem) w ((a.eval z).cells.getD i undef) ((resolveL s.mem (ev s.tm z).cells).getD i .any) := by
              rw [hrc]; exact (cells_cv f1.ch hcvz (kBs_cells (by rw [← hrc]; exact p4)).1).2
            have hoff : off + L.ks.length ≤ ks.length := by
              have := congrArg List.length p3
              simp only [List.length_take, List.length_drop] at this
              omega
            have hkd : ∀ j, j < L.ks.length → L.ks.getD j .other = ks.getD (off + j) .other := fun j hj => by
              rw [← p3]
              simp only [List.getD_eq_getElem?_getD, List.getElem?_take, List.getElem?_drop, if_pos hj]
            have hrow : RowR E' w c e ks l := by have := f1.ch c; rw [hm] at this; exact this
            obtain ⟨r1, ⟨r2, xs, ro, r4⟩ | ⟨r0, _⟩⟩ := hrow
            rotate_left
            · rw [r0] at hi; simp at hi
            rcases ro.2 with ⟨_, r0⟩ | ⟨g, cap, cur, c1, c2, c3, c4, c5, c6, c7⟩
            · omega
            have hl : E'.loc c = some g := by rw [r2, c1]; rfl
            obtain ⟨v', e1, e2, e3⟩ := hy.inv_rptr
            rw [hm] at e1
            simp only [verOf, Option.some.injEq] at e1
            have e4 := e3 (by omega) g hl
            have zs : (a.eval z).cells.toList.length = L.ks.length := by simp; omega
            have zs' : (a.eval z).cells.size = L.ks.length := by simpa using zs
            have hin : i * ks.length + ks.length ≤ l.length * ks.length := by
              have : (i + 1) * ks.length ≤ l.length * ks.length := Nat.mul_le_mul_right _ hi
              rw [Nat.add_mul, Nat.one_mul] at this; exact this
            have hcap : l.length * ks.length ≤ cur.size := by rw [c6]; exact Nat.mul_le_mul_right _ c4
            generalize hcu : (cur.toList.take (i * ks.length + off) ++ (a.eval z).cells.toList ++ cur.toList.drop ((i * ks.length + off) + (a.eval z).cells.size)).toArray = cur'
            have hcs : cur'.size = cur.size := by rw [← hcu]; simp; omega
            have hrun : (execOp a.eval o).run P w = .ok .skip (w.setRow g cur') := by
              have hst := run_storeCells_at P g (i * ks.length + off) e (a.eval z).cells.toList 0 cur w c3 (by simp; omega) z3
              simp only [Nat.add_zero, Array.length_toList, hcu] at hst
              simp only [execOp, ho, Instr.storeAt, storeVar, e4, Instr.sureAddr, Sem.run_bind, Sem.run_pure, Result.andThen_ok, run_size i1]
              rw [Sem.run_ite, if_neg (by omega), hst]
              rfl
            have hheap := setRow_heap w g cur cur' e (0, 0) c3
            have hI : ∀ k, E'.I k → (w.setRow g cur').heap[k]? = w.heap[k]? := fun k hk => setRow_other _ _ _ _ (fun e => (f1.loc c g hl).2.1 (e ▸ hk))
            have hsh : ∀ {j}, j < ks.length → kOk (ks.getD j .other) ((l.getD i .any).cells.getD j .any) := fun hj => shOk_get r1 hi hj
            have hel : (l.getD i .any).cells.length = ks.length := by
              have hmem : l.getD i .any ∈ l := by rw [List.getD_eq_getElem?_getD, List.getElem?_eq_getElem hi]; exact List.getElem_mem hi
              exact (r1 _ hmem).1
            have hsc : (stEl ks.length (l.getD i .any) off (resolveL s.mem (ev s.tm z).cells)).cells = setL (l.getD i .any).cells off (resolveL s.mem (ev s.tm z).cells) :=
              stEl_cells hel (by omega) (by omega) (fun j hj => by have := (kB_ok7 (k2 j (by omega))).2.2; exact this)
            have hgd : ∀ j, (setL (l.getD i .any).cells off (resolveL s.mem (ev s.tm z).cells)).getD j .any = if off ≤ j ∧ j < off + L.ks.length then (resolveL s.mem (ev s.tm z).cells).getD (j - off) .any else (l.getD i .any).cells.getD j .any := fun j => by
              rw [setL_getD _ _ _ _ (by omega), k1]
            unfold Oper.wp
            rw [hrun]
            have c2' : ∀ (l' : List SV) (k : Nat), lkO (upd s o.dst .und ((c, .row v e ks l') :: freezes s.mem (names (ev s.tm z)))).mem k = lkO (upd s' o.dst .und [(c, .row v e ks l')]).mem k := fun l' k => by
              simp only [upd]
              rw [List.cons_append, lkO_cons, List.singleton_append, lkO_cons, lkO_append, f3]
              split
              · rfl
              · cases lkO (freezes s.mem (names (ev s.tm z))) k <;> rfl
            refine hK E' _ _ ((f1.storeRow (x := undef) (u := .und) hm hl (fun k hk => setRow_other _ _ _ _ hk) (by simp [World.setRow]) ⟨rfl, rfl, rfl⟩ ⟨fun v hv => ?_, .inl ⟨r2, (cur'.toList.take (l.length * ks.length)), ⟨?_, .inr ⟨g, cap, cur', ?_, c2, hheap, ?_, c5, by rw [hcs]; exact c6, ?_⟩⟩, fun i' j hi' hj => ?_⟩⟩ (dOk_lt hd) (.conc _ _ .und)).congr (fun t => by simp only [upd, f2]) (c2' _))
            · rcases List.mem_or_eq_of_mem_set hv with hv | hv
              · exact r1 v hv
              · subst hv
                refine ⟨by rw [hsc, setL_length, hel], fun j hj => ?_⟩
                rw [hsc, hgd]
                by_cases hr : off ≤ j ∧ j < off + L.ks.length
                · rw [if_pos hr]
                  have := (kB_ok7 (k2 (j - off) (by omega))).1
                  rw [hkd _ (by omega)] at this
                  have e5 : off + (j - off) = j := by omega
                  rw [e5] at this; exact this
                · rw [if_neg hr]; exact hsh hj
            · simp only [List.length_take, List.length_set, Array.length_toList]; omega
            · rw [c1, List.length_set]
            · rw [List.length_set]; exact c4
            · rw [List.length_set]
            · rw [List.length_set] at hi'
              have hlt : i' * ks.length + j < l.length * ks.length := by
                have : (i' + 1) * ks.length ≤ l.length * ks.length := Nat.mul_le_mul_right _ hi'
                rw [Nat.add_mul, Nat.one_mul] at this
                omega
              have g1 : (cur'.toList.take (l.length * ks.length)).getD (i' * ks.length + j) undef = cur'.getD (i' * ks.length + j) undef := by
                rw [List.getD_eq_getElem?_getD, List.getElem?_take, if_pos hlt, Array.getD_eq_getD_getElem?, Array.getElem?_toList]
              have g2 : xs.getD (i' * ks.length + j) undef = cur.getD (i' * ks.length + j) undef := by
                rw [← c7, List.getD_eq_getElem?_getD, List.getElem?_take, if_pos hlt, Array.getD_eq_getD_getElem?, Array.getElem?_toList]
              have g3 := storeRow_getD cur (a.eval z).cells (i * ks.length + off) (i' * ks.length + j) (by omega)
              rw [hcu, zs'] at g3
              rw [g1, g3]
              have hold := (r4 i' j hi' hj)
              rw [g2] at hold
              have hel2 : elCell (l.set i (stEl ks.length (l.getD i .any) off (resolveL s.mem (ev s.tm z).cells))) i' j = if i = i' then (stEl ks.length (l.getD i .any) off (resolveL s.mem (ev s.tm z).cells)).cells.getD j .any else elCell l i' j := by
                unfold elCell
                rw [set_getD hi']
                by_cases e5 : i = i'
                · rw [if_pos e5, if_pos e5]
                · rw [if_neg e5, if_neg e5]
              rw [hel2]
              by_cases e5 : i = i'
              · subst e5
                rw [if_pos rfl, hsc, hgd]
                by_cases hr : off ≤ j ∧ j < off + L.ks.length
                · rw [if_pos hr, if_pos (by omega)]
                  have e6 : i * ks.length + j - (i * ks.length + off) = j - off := by omega
                  rw [e6]
                  have := closed_conc _ _ (kB_ok7 (k2 (j - off) (by omega))).2.1 (z2 (j - off))
                  exact this.mono (fun _ h => h) hI
                · rw [if_neg hr, if_neg (by omega)]
                  exact hold.mono (fun _ h => h) hI
              · rw [if_neg e5]
                have hne : ¬ (i * ks.length + off ≤ i' * ks.length + j ∧ i' * ks.length + j < i * ks.length + off + L.ks.length) := by
                  rcases Nat.lt_or_gt_of_ne e5 with h5 | h5
                  · have : (i + 1) * ks.length ≤ i' * ks.length := Nat.mul_le_mul_right _ h5
                    rw [Nat.add_mul, Nat.one_mul] at this
                    omega
                  · have : (i' + 1) * ks.length ≤ i * ks.length := Nat.mul_le_mul_right _ h5
                    rw [Nat.add_mul, Nat.one_mul] at this
                    omega
                rw [if_neg hne]
                exact hold.mono (fun _ h => h) hI
    | _ => simp only [hv] at hob; exact hob.elim

end
end Go.Rx

/- The framework, part 14: slices of strings and slices, conversions; all operations. -/
namespace Go.Rx
set_option linter.unusedSectionVars false
open Go.RowKit

section
variable {cx : Cx} {P : Program} [Laid P] {B : Nat} {M I0 : Nat → Prop} {G : Nat → Value} {w0 : World} {E : Env} {s : St} {a : Act} {w : World} {o : Oper} {K : Act → World → Prop} {Q : Exit → Act → World → Prop}

theorem run_bounds (k : Bool) (len cap : Nat) (lo hi : Option Value) (x y : Nat) (hlo : match lo with | none => x = 0 | some v => ∃ kk n, v = .int kk n ∧ 0 ≤ n ∧ n.toNat = x ∧ n ≤ y) (hhi : match hi with | none => y = len | some v => ∃ kk n, v = .int kk n ∧ 0 ≤ n ∧ n.toNat = y ∧ n ≤ cap) (w : World) :
    (Instr.sliceBounds k len cap lo hi none).run P w = .ok (x, y, cap) w := by
  unfold Instr.sliceBounds
  cases lo with
  | none =>
    cases hi with
    | none => simp at hlo hhi; subst hlo hhi; simp
    | some v =>
      obtain ⟨kk, n, rfl, h0, h1, h2⟩ := hhi
      simp at hlo; subst hlo
      simp [Instr.sliceBound, asIntOf, h0, h1, h2]
  | some u =>
    obtain ⟨kk, n, rfl, h0, h1, h2⟩ := hlo
    cases hi with
    | none =>
      simp at hhi; subst hhi
      simp [Instr.sliceBound, asIntOf, h0, h1, h2]
    | some v =>
      obtain ⟨kk', n', rfl, h0', h1', h2'⟩ := hhi
      simp [Instr.sliceBound, asIntOf, h0, h1, h2, h0', h1', h2']

theorem ba_extract (b : ByteArray) (x y : Nat) : (b.extract x y).data.toList = (b.data.toList.take y).drop x := by
  rw [ByteArray.data_extract, List.drop_take]
  simp

theorem sl_data {I : Nat → Prop} {v : Value} {ks : List CK} {l : List SV} (h : Conc I w v (.sl ks l)) : (l = [] ∧ ∃ ad cap, v = .slice ad 0 cap) ∨ ∃ (b off cap : Nat) (x : Nat → Nat → Value), v = .slice (some ⟨b, off, none⟩) l.length cap ∧ I b ∧ l.length ≤ cap ∧ (∀ e, e ∈ l → shOk ks e) ∧
    (∀ i j, i < l.length → j < ks.length → w.cell? ⟨b, off + i * ks.length + j, none⟩ = some (x i j)) ∧ (∀ i j, i < l.length → j < ks.length → Conc I w (x i j) (elCell l i j)) := by
  cases h with
  | sl0 a cap => exact .inl ⟨rfl, a, cap, rfl⟩
  | sl b off cap _ _ x hb hc hsh hx hxc => exact .inr ⟨b, off, cap, x, rfl, hb, hc, hsh, hx, hxc⟩

/-- A part of a slice that nobody writes. -/
theorem sl_part {I : Nat → Prop} {ad : Option Addr} {cap : Nat} {ks : List CK} {l : List SV} (h : Conc I w (.slice ad l.length cap) (.sl ks l)) (x y : Nat) (hx : x ≤ y) (hy : y ≤ l.length) (hc : y ≤ cap) :
    Conc I w (.slice (if cap = x then ad else ad.map (·.add (x * ks.length))) (y - x) (cap - x)) (.sl ks ((l.take y).drop x)) := by
  have hlen : ((l.take y).drop x).length = y - x := by simp; omega
  by_cases hxy : y = x
  · have hnil : (l.take y).drop x = [] := by apply List.eq_nil_of_length_eq_zero; omega
    rw [hnil, hxy, Nat.sub_self]
    exact .sl0 _ _ _
  · rcases sl_data h with ⟨h1, _⟩ | ⟨b, off, cap', x1, hv, hb, hc1, hsh, hx1, hxc⟩
    · subst h1; simp at hy; omega
    · simp only [Value.slice.injEq, true_and] at hv
      obtain ⟨rfl, rfl⟩ := hv
      rw [if_neg (by omega)]
      simp only [Option.map_some, addr_add]
      have : Value.slice (some ⟨b, off + x * ks.length, none⟩) (y - x) (cap - x) = Value.slice (some ⟨b, off + x * ks.length, none⟩) ((l.take y).drop x).length (cap - x) := by rw [hlen]
      rw [this]
      have hel : ∀ i j, i < y - x → elCell ((l.take y).drop x) i j = elCell l (x + i) j := fun i j hi => by
        simp only [elCell, List.getD_eq_getElem?_getD, List.getElem?_drop, List.getElem?_take]
        rw [if_pos (by omega)]
      refine .sl b (off + x * ks.length) (cap - x) ks _ (fun i j => x1 (x + i) j) hb (by omega) (fun e he => hsh e (List.mem_of_mem_take (List.mem_of_mem_drop he))) (fun i j hi hj => ?_) (fun i j hi hj => ?_)
      · have := hx1 (x + i) j (by omega) hj
        rw [Nat.add_mul] at this
        rw [show off + x * ks.length + i * ks.length + j = off + (x * ks.length + i * ks.length) + j by omega]
        exact this
      · rw [hel i j (by omega)]
        exact hxc (x + i) j (by omega) hj

theorem sl_capLe {I : Nat → Prop} {x : Value} {ks : List CK} {l : List SV} (h : Conc I w x (.sl ks l)) : ∃ ad cap, x = .slice ad l.length cap ∧ (l ≠ [] → l.length ≤ cap) := by
  cases h with
  | sl0 a cap => exact ⟨a, cap, rfl, fun h => (h rfl).elim⟩
  | sl b off cap _ _ x hb hc hsh hx hxc => exact ⟨_, cap, rfl, fun _ => hc⟩

theorem sound_slice (hP : CxOk P cx) {t : Nat} {y : Operand} {lo hi : Option Operand} (ho : o.op = .slice t y lo hi none) : Sound cx P o := by
  intro B M I0 G w0 E s a w K Q h hd hob hK
  have e : opx cx s.mem (ev s.tm) o = opE cx s.mem (ev s.tm) o.dst (.slice t y lo hi none) := by simp [opx, ho]
  rw [e] at hob hK
  simp only [opE] at hob hK
  have hy := h.eval y
  cases ht : tyOf cx t with
  | none => rw [ht] at hob; exact hob.elim
  | some L =>
    obtain ⟨d, h1, h2⟩ := (tyRun hP ht).desc
    simp only [ht] at hob hK
    cases hk : L.k <;> simp only [hk] at hob hK h2 <;> try exact hob.elim
    · -- a string
      have := TkOk_str h2
      subst this
      cases hv : ev s.tm y <;> simp only [hv] at hob hK <;> try exact hob.elim
      rename_i l
      rw [hv] at hy
      obtain ⟨b, e1, e2⟩ := hy.inv_str
      have hsz : b.size = l.length := by rw [← e2]; simp
      have run : ∀ (x z : Nat), x ≤ z → z ≤ l.length → (match lo.map a.eval with | none => x = 0 | some v => ∃ kk n, v = .int kk n ∧ 0 ≤ n ∧ n.toNat = x ∧ n ≤ z) → (match hi.map a.eval with | none => z = b.size | some v => ∃ kk n, v = .int kk n ∧ 0 ≤ n ∧ n.toNat = z ∧ n ≤ b.size) →
          ∀ {v : List UInt8}, v = (l.take z).drop x → (∀ E' a' w', Rel P cx.nt B M I0 G w0 E' (upd s o.dst (.str v) []) a' w' → K a' w') → Oper.wp P o a w K Q := by
        intro x z hxz hzl q1 q2 v hv' hK'
        refine op_val h hd (x := .string (b.extract x z)) ?_ (.conc _ _ (.str _ _ ?_)) hK'
        · have hb := run_bounds (P := P) false b.size b.size (lo.map a.eval) (hi.map a.eval) x z q1 q2 w
          have hcase : ∀ (lo' hi' : Option Value), (Instr.sliceBounds false b.size b.size lo' hi' none).run P w = .ok (x, z, b.size) w → (Instr.slice t (.string b) lo' hi' none).run P w = .ok (.string (b.extract x z)) w := by
            intro lo' hi' hh
            simp [Instr.slice, run_underlying h1, hh]
          simp only [execOp, ho, Instr.sliceAt, Sem.run_bind, run_underlying h1, Result.andThen_ok, e1, Option.map_none]
          rw [hcase _ _ hb]
          rfl
        · rw [hv', ba_extract b x z, e2]
      have nat : ∀ {n : Int} {m : Nat}, 0 ≤ n → n ≤ m → n.toNat ≤ m := fun h1 h2 => by omega
      cases lo with
      | none =>
        cases hi with
        | none =>
          simp only [Option.map_none] at hob hK
          exact run 0 l.length (Nat.zero_le _) (Nat.le_refl _) (by simp) (by simp [hsz]) (by simp) hK
        | some z =>
          simp only [Option.map_none, Option.map_some] at hob hK
          cases hz : ev s.tm z <;> simp only [hz] at hob hK <;> try exact hob.elim
          rename_i k n
          have hz' := h.eval z
          rw [hz] at hz'
          obtain ⟨⟨p1, p2⟩⟩ := hob
          exact run 0 n.toNat (Nat.zero_le _) (by omega) (by simp) ⟨k, n, hz'.inv_int, p1, rfl, by rw [hsz]; exact p2⟩ (by simp) hK
      | some u =>
        have hu' := h.eval u
        cases hi with
        | none =>
          simp only [Option.map_none, Option.map_some] at hob hK
          cases hu : ev s.tm u <;> simp only [hu] at hob hK <;> try exact hob.elim
          rename_i k n
          rw [hu] at hu'
          obtain ⟨⟨p1, p2⟩⟩ := hob
          exact run n.toNat l.length (by omega) (Nat.le_refl _) ⟨k, n, hu'.inv_int, p1, rfl, p2⟩ (by simp [hsz]) (by simp) hK
        | some z =>
          have hz' := h.eval z
          simp only [Option.map_some] at hob hK
          cases hu : ev s.tm u <;> simp only [hu] at hob hK <;> try exact hob.elim
          cases hz : ev s.tm z <;> simp only [hz] at hob hK <;> try exact hob.elim
          rename_i k n k' n'
          rw [hu] at hu'
          rw [hz] at hz'
          obtain ⟨⟨p1, p2, p3⟩⟩ := hob
          exact run n.toNat n'.toNat (by omega) (by omega) ⟨k, n, hu'.inv_int, p1, rfl, by omega⟩ ⟨k', n', hz'.inv_int, by omega, rfl, by rw [hsz]; exact p3⟩ rfl hK
    · -- a slice
      rename_i et
      have := TkOk_sl h2
      subst this
      -- the run, off bounds that fit
      have run : ∀ {ad : Option Addr} {len cap x z sz : Nat} {inf : TypeInfo}, a.eval y = .slice ad len cap → P.info? et = some inf → inf.size = sz → (match lo.map a.eval with | none => x = 0 | some v => ∃ kk n, v = .int kk n ∧ 0 ≤ n ∧ n.toNat = x ∧ n ≤ z) → (match hi.map a.eval with | none => z = len | some v => ∃ kk n, v = .int kk n ∧ 0 ≤ n ∧ n.toNat = z ∧ n ≤ cap) →
          (execOp a.eval o).run P w = .ok (.value (.slice (if cap = x then ad else ad.map (·.add (x * sz))) (z - x) (cap - x))) w := by
        intro ad len cap x z sz inf e1 i1 i2 q1 q2
        have hb := run_bounds (P := P) true len cap (lo.map a.eval) (hi.map a.eval) x z q1 q2 w
        have hcase : ∀ (lo' hi' : Option Value), (Instr.sliceBounds true len cap lo' hi' none).run P w = .ok (x, z, cap) w → (Instr.slice t (.slice ad len cap) lo' hi' none).run P w = .ok (.slice (if cap = x then ad else ad.map (·.add (x * sz))) (z - x) (cap - x)) w := by
          intro lo' hi' hh
          simp [Instr.slice, run_underlying h1, hh, run_size i1, i2]
        simp only [execOp, ho, Instr.sliceAt, Sem.run_bind, run_underlying h1, Result.andThen_ok, e1, Option.map_none]
        rw [hcase _ _ hb]
        rfl
      -- a part of what nobody writes
      have part : ∀ {Le : TyL} {ks : List CK} {l : List SV} {rd : List Nat}, tyOf cx et = some Le → Conc E.I w (a.eval y) (.sl ks l) → obH (slPart Le ks l rd (lo.map (ev s.tm)) (hi.map (ev s.tm))).ob →
          (∀ E' a' w', Rel P cx.nt B M I0 G w0 E' (upd s o.dst (slPart Le ks l rd (lo.map (ev s.tm)) (hi.map (ev s.tm))).v (slPart Le ks l rd (lo.map (ev s.tm)) (hi.map (ev s.tm))).ch) a' w' → K a' w') → Oper.wp P o a w K Q := by
        intro Le ks l rd hte hsl0 hob hK
        obtain ⟨inf, _, i1, i2, _⟩ := (tyRun hP hte).info
        unfold slPart at hob hK
        cases hq : Nat.beq Le.ks.length ks.length with
        | false => simp only [hq] at hob; exact hob.elim
        | true =>
          simp only [hq] at hob hK
          have hq := Nat.eq_of_beq_eq_true hq
          obtain ⟨ad, cap, e1, hcap⟩ := sl_capLe hsl0
          have hcl : ∀ {z : Nat}, z ≤ l.length → z ≤ cap := fun {z} hz => by
            by_cases h0 : l = []
            · rw [h0] at hz; simp at hz; omega
            · exact Nat.le_trans hz (hcap h0)
          have hsl := hsl0
          rw [e1] at hsl
          have go : ∀ (x z : Nat), x ≤ z → z ≤ l.length → (match lo.map a.eval with | none => x = 0 | some v => ∃ kk n, v = .int kk n ∧ 0 ≤ n ∧ n.toNat = x ∧ n ≤ z) → (match hi.map a.eval with | none => z = l.length | some v => ∃ kk n, v = .int kk n ∧ 0 ≤ n ∧ n.toNat = z ∧ n ≤ cap) →
              ∀ {v : List SV}, v = (l.take z).drop x → (∀ E' a' w', Rel P cx.nt B M I0 G w0 E' (upd s o.dst (.sl ks v) []) a' w' → K a' w') → Oper.wp P o a w K Q := by
            intro x z hxz hzl q1 q2 v hv' hK'
            refine op_val h hd (run e1 i1 (i2.trans hq) q1 q2) (.conc _ _ ?_) hK'
            rw [hv']
            exact sl_part hsl x z hxz hzl (hcl hzl)
          cases lo with
          | none =>
            cases hi with
            | none => simp only [Option.map_none] at hob; exact hob.elim
            | some z =>
              simp only [Option.map_none, Option.map_some] at hob hK
              cases hz : ev s.tm z <;> simp only [hz] at hob hK <;> try exact hob.elim
              rename_i k n
              have hz' := h.eval z
              rw [hz] at hz'
              obtain ⟨⟨p1, p2⟩⟩ := hob
              have := hcl (z := n.toNat) (by omega)
              exact go 0 n.toNat (Nat.zero_le _) (by omega) (by simp) ⟨k, n, hz'.inv_int, p1, rfl, by omega⟩ (by simp) hK
          | some u =>
            have hu' := h.eval u
            cases hi with
            | none =>
              simp only [Option.map_none, Option.map_some] at hob hK
              cases hu : ev s.tm u <;> simp only [hu] at hob hK <;> try exact hob.elim
              rename_i k n
              rw [hu] at hu'
              obtain ⟨⟨p1, p2⟩⟩ := hob
              exact go n.toNat l.length (by omega) (Nat.le_refl _) ⟨k, n, hu'.inv_int, p1, rfl, p2⟩ (by simp) (by simp) hK
            | some z =>
              have hz' := h.eval z
              simp only [Option.map_some] at hob hK
              cases hu : ev s.tm u <;> simp only [hu] at hob hK <;> try exact hob.elim
              cases hz : ev s.tm z <;> simp only [hz] at hob hK <;> try exact hob.elim
              rename_i k n k' n'
              rw [hu] at hu'
              rw [hz] at hz'
              obtain ⟨⟨p1, p2, p3⟩⟩ := hob
              have := hcl (z := n'.toNat) (by omega)
              exact go n.toNat n'.toNat (by omega) (by omega) ⟨k, n, hu'.inv_int, p1, rfl, by omega⟩ ⟨k', n', hz'.inv_int, by omega, rfl, by omega⟩ rfl hK
      cases hv : ev s.tm y <;> simp only [hv] at hob hK <;> try exact hob.elim
      · -- a slice of the function's own
        rename_i c ver
        rw [hv] at hy
        cases hte : tyOf cx et with
        | none => simp only [hte] at hob; exact hob.elim
        | some Le =>
          cases hm : lkO s.mem c with
          | none => simp only [hte, hm] at hob; exact hob.elim
          | some ch =>
            simp only [hte, hm] at hob hK
            cases ch <;> simp only at hob hK <;> try exact hob.elim
            · rename_i v2 e' ks l
              cases hq : (Nat.beq v2 ver && Nat.beq Le.ks.length ks.length) with
              | false => simp only [hq] at hob; exact hob.elim
              | true =>
                simp only [hq] at hob hK
                cases lo with
                | some u =>
                  cases hi with
                  | some z =>
                    simp only [Option.map_some] at hob
                    cases hu : ev s.tm u <;> simp only [hu] at hob <;> exact hob.elim
                  | none =>
                    have hu' := h.eval u
                    simp only [Option.map_some, Option.map_none] at hob hK
                    cases hu : ev s.tm u <;> simp only [hu] at hob hK <;> try exact hob.elim
                    rename_i kk n
                    rw [hu] at hu'
                    simp only [Bool.and_eq_true] at hq
                    have p1 := Nat.eq_of_beq_eq_true hq.1
                    have p2 := Nat.eq_of_beq_eq_true hq.2
                    subst p1
                    obtain ⟨⟨o1, o2⟩⟩ := hob
                    obtain ⟨inf, _, i1, i2, _⟩ := (tyRun hP hte).info
                    have hc0 := h.ch c
                    rw [hm] at hc0
                    obtain ⟨v', g1, g2⟩ := hy.inv_osl
                    have g1' := g1
                    rw [hm] at g1
                    simp only [verOf, Option.some.injEq] at g1
                    have hxe := g2 g1
                    obtain ⟨ad, cap, hsl⟩ := RowR.isSlice hc0
                    have hrun := run (x := n.toNat) (z := l.length) (sz := ks.length) (hxe.trans hsl) i1 (i2.trans p2) ⟨_, _, hu'.inv_int, o1, rfl, o2⟩ rfl
                    refine op_val h hd hrun (.otl _ _ _ _ _ v' g1' (Nat.le_of_eq g1) (fun _ ad' n' cap' he => ?_)) hK
                    rw [hsl] at he
                    cases he
                    rfl
                | none =>
                  cases hi with
                  | none => exact hob.elim
                  | some z =>
                    have hz' := h.eval z
                    simp only [Option.map_some, Option.map_none] at hob hK
                    cases hz : ev s.tm z <;> simp only [hz] at hob hK <;> try exact hob.elim
                    rename_i kk n
                    rw [hz] at hz'
                    simp only [Bool.and_eq_true] at hq
                    have p1 := Nat.eq_of_beq_eq_true hq.1
                    have p2 := Nat.eq_of_beq_eq_true hq.2
                    subst p1
                    obtain ⟨inf, _, i1, i2, _⟩ := (tyRun hP hte).info
                    have hc0 := h.ch c
                    rw [hm] at hc0
                    obtain ⟨v', g1, g2⟩ := hy.inv_osl
                    rw [hm] at g1
                    simp only [verOf, Option.some.injEq] at g1
                    have hxe := g2 g1
                    obtain ⟨t1, ⟨t2, xs, t3, t4⟩ | ⟨z1, z2, adz, z3⟩⟩ := hc0
                    rotate_left
                    · rw [← hxe] at z3
                      subst z1
                      have h0 : ∀ {kk : IntKind} {n : Int}, a.eval z = .int kk n → n = 0 → ∃ ad', (execOp a.eval o).run P w = .ok (.value (.slice ad' 0 0)) w ∧ (ad' = adz) := fun hz0 hn0 => by
                        subst hn0
                        have := run (x := 0) (z := 0) (sz := ks.length) z3 i1 (i2.trans p2) (by simp) ⟨_, _, hz0, by omega, by omega, by omega⟩
                        refine ⟨adz, ?_, rfl⟩
                        rw [this]
                        cases adz with
                        | none => rfl
                        | some b => simp [addr_add]
                      cases hfb : fullB cx.pl n [] with
                      | true =>
                        simp only [hfb] at hob hK
                        have hn : n = 0 := by
                          unfold fullB at hfb
                          split at hfb
                          · exact of_decide_eq_true hfb
                          · cases hfb
                        obtain ⟨ad', hr, e0⟩ := h0 hz'.inv_int hn
                        subst e0
                        exact op_val h hd (x := a.eval y) (by rw [hr, z3]) hy hK
                      | false =>
                        simp only [hfb] at hob hK
                        obtain ⟨⟨b1, b2⟩⟩ := hob
                        obtain ⟨ad', hr, e0⟩ := h0 hz'.inv_int (by simp at b2; omega)
                        subst e0
                        unfold Oper.wp
                        rw [hr]
                        refine hK (E.withRow c (.slice ad' 0 0)) _ _ ?_
                        exact h.rowZ (.inr ⟨v2, by rw [hm]; rfl, Nat.lt_succ_self _⟩) (by simp) (dOk_lt hd)
                    rw [← hxe] at t2 t3
                    cases hfb : fullB cx.pl n l with
                    | true =>
                      simp only [hfb] at hob hK
                      have hn : n = l.length := by
                        unfold fullB at hfb
                        split at hfb
                        · exact of_decide_eq_true hfb
                        · cases hfb
                      rcases t3.2 with ⟨q1, q2⟩ | ⟨g, cap, cur, q1, q3, q4, q5, q6, q7, q8⟩
                      · refine op_val h hd (x := a.eval y) ?_ hy hK
                        have := run (x := 0) (z := 0) (sz := ks.length) q1 i1 (i2.trans p2) (by simp) ⟨kk, n, hz'.inv_int, by omega, by omega, by omega⟩
                        rw [this, q1]; rfl
                      · refine op_val h hd (x := a.eval y) ?_ hy hK
                        have := run (x := 0) (z := l.length) (sz := ks.length) q1 i1 (i2.trans p2) (by simp) ⟨kk, n, hz'.inv_int, by omega, by omega, by omega⟩
                        rw [this, q1]
                        congr 3
                        split <;> simp [addr_add]
                    | false =>
                      simp only [hfb] at hob hK
                      obtain ⟨⟨b1, b2⟩⟩ := hob
                      have hnl : n.toNat ≤ l.length := by omega
                      have done : ∀ {x : Value}, (execOp a.eval o).run P w = .ok (.value x) w → x.ownBlock = (a.eval y).ownBlock → w.ownsRow 0 e' ks.length x n.toNat (xs.take (n.toNat * ks.length)) → Oper.wp P o a w K Q := by
                        intro x hr hbl hown
                        unfold Oper.wp
                        rw [hr]
                        refine hK (E.withRow c x) _ _ ?_
                        have hlen : (l.take n.toNat).length = n.toNat := by simp; omega
                        refine h.row (row := none) (xs := xs.take (n.toNat * ks.length)) rfl (fun _ => rfl) (.inr ⟨v2, by rw [hm]; rfl, Nat.lt_succ_self _⟩) ⟨rfl, rfl, rfl, Nat.le_refl _, fun _ _ _ => rfl⟩ (fun k hk => by cases hk)
                          (fun b hb => ⟨(h.loc c b (t2.trans (hbl ▸ hb))).1, .inl ⟨by rw [hm]; simp, t2.trans (hbl ▸ hb)⟩⟩) (fun e he => t1 e (List.mem_of_mem_take he)) (by rw [hlen]; exact hown) (fun i j hi hj => ?_) (dOk_lt hd)
                        rw [hlen] at hi
                        have hlt : i * ks.length + j < n.toNat * ks.length := by
                          have : (i + 1) * ks.length ≤ n.toNat * ks.length := Nat.mul_le_mul_right _ hi
                          rw [Nat.add_mul, Nat.one_mul] at this
                          omega
                        have e3 : (xs.take (n.toNat * ks.length)).getD (i * ks.length + j) undef = xs.getD (i * ks.length + j) undef := by simp only [List.getD_eq_getElem?_getD]; rw [List.getElem?_take, if_pos hlt]
                        have e4 : elCell (l.take n.toNat) i j = elCell l i j := by simp only [elCell, List.getD_eq_getElem?_getD]; rw [List.getElem?_take, if_pos hi]
                        rw [e3, e4]
                        exact t4 i j (by omega) hj
                      have hxl := t3.1
                      have htk : (xs.take (n.toNat * ks.length)).length = n.toNat * ks.length := by
                        rw [List.length_take, hxl]
                        exact Nat.min_eq_left (Nat.mul_le_mul_right _ hnl)
                      rcases t3.2 with ⟨q1, q2⟩ | ⟨g, cap, cur, q1, q3, q4, q5, q6, q7, q8⟩
                      · have h0 : n.toNat = 0 := by omega
                        refine done (x := .slice none 0 0) ?_ (by rw [q1]) ?_
                        · have := run (x := 0) (z := 0) (sz := ks.length) q1 i1 (i2.trans p2) (by simp) ⟨kk, n, hz'.inv_int, b1, h0, by omega⟩
                          simpa using this
                        · rw [h0]; simp only [Nat.zero_mul, List.take_zero]; exact World.ownsRow_nil w 0 e' _
                      · refine done (x := .slice (some ⟨g, 0, none⟩) n.toNat cap) ?_ (by rw [q1]; rfl) ?_
                        · have := run (x := 0) (z := n.toNat) (sz := ks.length) q1 i1 (i2.trans p2) (by simp) ⟨kk, n, hz'.inv_int, b1, rfl, by omega⟩
                          rw [this]
                          congr 3
                          split <;> simp [addr_add]
                        · refine ⟨htk, .inr ⟨g, cap, cur, rfl, q3, q4, by omega, q6, q7, ?_⟩⟩
                          rw [← q8, List.take_take, Nat.min_eq_left (Nat.mul_le_mul_right _ hnl)]
            · rename_i v2 ks l
              cases hq : Nat.beq v2 ver with
              | false => simp only [hq] at hob; exact hob.elim
              | true =>
                simp only [hq] at hob hK
                have p1 := Nat.eq_of_beq_eq_true hq
                subst p1
                obtain ⟨v', g1, g2⟩ := hy.inv_osl
                rw [hm] at g1
                simp only [verOf, Option.some.injEq] at g1
                have hxe := g2 g1
                have hc0 := h.ch c
                rw [hm] at hc0
                have hc0 : Conc E.I w (E.cv c) (.sl ks l) := hc0
                rw [← hxe] at hc0
                exact part hte hc0 hob hK
      · -- a slice that nobody writes
        rename_i ks l
        rw [hv] at hy
        cases hte : tyOf cx et with
        | none => simp only [hte] at hob; exact hob.elim
        | some Le =>
          simp only [hte] at hob hK
          exact part hte hy.inv_sl hob hK
      · -- nil
        rw [hv] at hy
        cases hte : tyOf cx et with
        | none => simp only [hte] at hob; exact hob.elim
        | some Le =>
          obtain ⟨inf, _, i1, i2, _⟩ := (tyRun hP hte).info
          cases lo with
          | some u => simp only [hte] at hob; exact hob.elim
          | none =>
            cases hi with
            | none => simp only [hte] at hob; exact hob.elim
            | some z =>
              have hz' := h.eval z
              simp only [hte, Option.map_some] at hob hK
              cases hz : ev s.tm z <;> simp only [hz] at hob hK <;> try exact hob.elim
              rename_i kk n
              rw [hz] at hz'
              have hn := hob.out
              refine op_val h hd (x := .slice none 0 0) ?_ (.conc _ _ .nilsl) hK
              have := run (x := 0) (z := 0) (sz := inf.size) hy.inv_nilsl i1 rfl (by simp) ⟨kk, n, hz'.inv_int, by omega, by omega, by omega⟩
              rw [this]; rfl

theorem isZ_eval {z : Operand} (h : isZ z = true) : ∃ k, a.eval z = .int k 0 := by
  unfold isZ at h
  split at h
  · exact ⟨_, rfl⟩
  · cases h
theorem sound_slice3 (hP : CxOk P cx) {t : Nat} {y hi mx : Operand} (ho : o.op = .slice t y none (some hi) (some mx)) : Sound cx P o := by
  intro B M I0 G w0 E s a w K Q h hd hob hK
  have e : opx cx s.mem (ev s.tm) o = opE cx s.mem (ev s.tm) o.dst (.slice t y none (some hi) (some mx)) := by simp [opx, ho]
  rw [e] at hob hK
  simp only [opE] at hob hK
  have hy := h.eval y
  have hh := h.eval hi
  have hx := h.eval mx
  cases ht : tyOf cx t with
  | none => rw [ht] at hob; exact hob.elim
  | some L =>
    obtain ⟨d, h1, h2⟩ := (tyRun hP ht).desc
    simp only [ht] at hob hK
    cases hk : L.k <;> simp only [hk] at hob hK h2 <;> try exact hob.elim
    rename_i et
    have := TkOk_sl h2
    subst this
    cases hte : tyOf cx et with
    | none => simp only [hte] at hob; exact hob.elim
    | some Le =>
      obtain ⟨inf, _, i1, i2, _⟩ := (tyRun hP hte).info
      simp only [hte] at hob hK
      have full : ∀ {I : Nat → Prop} {ks : List CK} {l : List SV} {k k' : IntKind} {n n' : Int}, Conc I w (a.eval y) (.sl ks l) → a.eval hi = .int k n → a.eval mx = .int k' n' → n = l.length → n' = l.length →
          ∃ ad, (execOp a.eval o).run P w = .ok (.value (.slice ad l.length l.length)) w ∧ Conc I w (.slice ad l.length l.length) (.fsl ks l) := by
        intro I ks l k k' n n' hsl e2 e3 q1 q2
        have run : ∀ {ad : Option Addr} {cap : Nat}, a.eval y = .slice ad l.length cap → l.length ≤ cap → (execOp a.eval o).run P w = .ok (.value (.slice ad l.length l.length)) w := by
          intro ad cap e1 hcap
          simp [execOp, ho, Instr.sliceAt, run_underlying h1, e1, e2, e3, q1, q2, Instr.slice, Instr.sliceBounds, Instr.sliceBound, asIntOf, run_size i1, hcap]
          all_goals (intro _; cases ad with
            | none => rfl
            | some b => simp [Addr.add])
        rcases sl_data hsl with ⟨rfl, ad, cap, e1⟩ | ⟨b, off, cap, x, e1, hb, hc, hsh, hx1, hxc⟩
        · exact ⟨ad, run e1 (Nat.zero_le _), .fsl ad ks [] (.sl0 ad 0 ks)⟩
        · exact ⟨_, run e1 hc, .fsl _ ks l (.sl b off l.length ks l x hb (Nat.le_refl _) hsh hx1 hxc)⟩
      by_cases hzz : (isZ hi && isZ mx) = true ∧ ∃ ks l, ev s.tm y = .sl ks l
      · obtain ⟨hz, ks, l, hv⟩ := hzz
        rw [hz, hv] at hob hK
        simp only [sl3Z, slZOf] at hob hK
        rw [hv] at hy
        cases hq : Nat.beq Le.ks.length ks.length with
        | false => simp only [hq] at hob; exact hob.elim
        | true =>
          simp only [hq] at hob hK
          simp only [Bool.and_eq_true] at hz
          obtain ⟨k1, e2⟩ := isZ_eval (a := a) hz.1
          obtain ⟨k2, e3⟩ := isZ_eval (a := a) hz.2
          have fin : ∀ ad len cap, a.eval y = .slice ad len cap → ∃ ad', (execOp a.eval o).run P w = .ok (.value (.slice ad' 0 0)) w := by
            intro ad len cap e1
            cases ad with
            | none => exact ⟨none, by simp [execOp, ho, Instr.sliceAt, run_underlying h1, e1, e2, e3, Instr.slice, Instr.sliceBounds, Instr.sliceBound, asIntOf, run_size i1]⟩
            | some b => exact ⟨_, by simp [execOp, ho, Instr.sliceAt, run_underlying h1, e1, e2, e3, Instr.slice, Instr.sliceBounds, Instr.sliceBound, asIntOf, run_size i1]; rfl⟩
          obtain ⟨ad, cap, e1, _⟩ := sl_len hy.inv_sl
          obtain ⟨ad', hr⟩ := fin ad _ cap e1
          exact op_val h hd hr (.conc _ _ (.fsl ad' ks [] (.sl0 ad' 0 ks))) hK
      rw [sl3Z_no (fun ks l h1 h2 => hzz ⟨h1, ks, l, h2⟩)] at hob hK
      cases hv2 : ev s.tm hi <;> simp only [hv2] at hob hK <;> try exact hob.elim
      cases hv3 : ev s.tm mx <;> simp only [hv3] at hob hK <;> try exact hob.elim
      rename_i k1 n k2 n'
      rw [hv2] at hh
      rw [hv3] at hx
      unfold sl3Of at hob hK
      cases hv : ev s.tm y <;> simp only [hv] at hob hK <;> try exact hob.elim
      all_goals rw [hv] at hy
      · -- of the function's own
        rename_i c ver
        cases hm : lkO s.mem c with
        | none => simp only [hm] at hob; exact hob.elim
        | some ch =>
          simp only [hm] at hob hK
          obtain ⟨v', g1, g2⟩ := hy.inv_osl
          have hc0 := h.ch c
          rw [hm] at g1 hc0
          cases ch <;> simp only at hob hK <;> try exact hob.elim
          · rename_i v e' ks l
            cases hq : (Nat.beq v ver && Nat.beq Le.ks.length ks.length) with
            | false => simp only [hq] at hob; exact hob.elim
            | true =>
              simp only [hq] at hob hK
              simp only [Bool.and_eq_true] at hq
              have p1 := Nat.eq_of_beq_eq_true hq.1
              subst p1
              simp only [verOf, Option.some.injEq] at g1
              have hxe := g2 g1
              obtain ⟨q1, q2⟩ := hob.out
              obtain ⟨E', f1, f2, f3⟩ := h.freeze1 hm
              have hc1 := f1.ch c
              dsimp only at hc1
              rw [lkO_cons, if_pos rfl] at hc1
              have hc1 : Conc E'.I w (E'.cv c) (.sl ks l) := hc1
              rw [f3, ← hxe] at hc1
              obtain ⟨ad, hr, hcc⟩ := full hc1 hh.inv_int hx.inv_int q1 q2
              unfold Oper.wp
              rw [hr]
              exact hK E' _ _ (f1.val (dOk_lt hd) (.conc _ _ hcc))
          · rename_i v ks l
            cases hq : (Nat.beq v ver && Nat.beq Le.ks.length ks.length) with
            | false => simp only [hq] at hob; exact hob.elim
            | true =>
              simp only [hq] at hob hK
              simp only [Bool.and_eq_true] at hq
              have p1 := Nat.eq_of_beq_eq_true hq.1
              subst p1
              simp only [verOf, Option.some.injEq] at g1
              have hxe := g2 g1
              obtain ⟨q1, q2⟩ := hob.out
              have hc1 : Conc E.I w (E.cv c) (.sl ks l) := hc0
              rw [← hxe] at hc1
              obtain ⟨ad, hr, hcc⟩ := full hc1 hh.inv_int hx.inv_int q1 q2
              exact op_val h hd hr (.conc _ _ hcc) hK
      · rename_i ks l
        cases hq : Nat.beq Le.ks.length ks.length with
        | false => simp only [hq] at hob; exact hob.elim
        | true =>
          simp only [hq] at hob hK
          obtain ⟨q1, q2⟩ := hob.out
          obtain ⟨ad, hr, hcc⟩ := full hy.inv_sl hh.inv_int hx.inv_int q1 q2
          exact op_val h hd hr (.conc _ _ hcc) hK
      · obtain ⟨q1, q2⟩ := hob.out
        subst q1 q2
        refine op_val h hd (x := .slice none 0 0) ?_ (.conc _ _ .nilsl) hK
        simp [execOp, ho, Instr.sliceAt, run_underlying h1, hy.inv_nilsl, hh.inv_int, hx.inv_int, Instr.slice, Instr.sliceBounds, Instr.sliceBound, asIntOf, run_size i1]
end
end Go.Rx

