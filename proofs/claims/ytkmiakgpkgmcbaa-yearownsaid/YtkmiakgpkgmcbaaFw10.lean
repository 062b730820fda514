/- The framework, part 10: slices of the function's own; conversions; the other operations on values. -/
import Derived.Test.YtkmiakgpkgmcbaaFw9
namespace Go.Rx
set_option linter.unusedSectionVars false
open Go.RowKit

section
variable {cx : Cx} {P : Program} [Laid P] {B : Nat} {M I0 : Nat → Prop} {G : Nat → Value} {w0 : World} {E : Env} {s : St} {a : Act} {w : World} {o : Oper} {K : Act → World → Prop} {Q : Exit → Act → World → Prop}

/-- The block of a slice that has room. -/
def oB : Value → Option Nat
  | .slice _ _ 0 => none
  | v => v.ownBlock
theorem oB_some {x : Value} {b : Nat} (h : oB x = some b) : x.ownBlock = some b := by
  unfold oB at h
  split at h
  · cases h
  · exact h
def Env.withRow (E : Env) (c : Nat) (x : Value) : Env := { E with loc := fun k => if k = c then oB x else E.loc k, cv := fun k => if k = c then x else E.cv k }
theorem rowR_own {E : Env} {c e : Nat} {ks : List CK} {l : List SV} {x : Value} {w' : World} {xs : List Value} (hsh : ∀ v, v ∈ l → shOk ks v) (hown : w'.ownsRow 0 e ks.length x l.length xs)
    (hx : ∀ i j, i < l.length → j < ks.length → Conc E.I w' (xs.getD (i * ks.length + j) undef) (elCell l i j)) : RowR (E.withRow c x) w' c e ks l := by
  refine ⟨hsh, ?_⟩
  have z : ∀ ad, x = .slice ad 0 0 → l.length = 0 → RowZ (E.withRow c x) c l := fun ad e1 e2 => by
    subst e1; exact ⟨List.eq_nil_of_length_eq_zero e2, by simp [Env.withRow, oB], ad, by simp [Env.withRow]⟩
  rcases hown.2 with ⟨e1, e2⟩ | ⟨g, cap, cur, e1, hg, hh, hn, hm, hs, ht⟩
  · exact .inr (z none e1 e2)
  · by_cases hc : cap = 0
    · subst hc
      have h0 : l.length = 0 := by omega
      rw [h0] at e1
      exact .inr (z _ e1 h0)
    · refine .inl ⟨?_, xs, by simpa [Env.withRow] using hown, fun i j hi hj => hx i j hi hj⟩
      have : oB x = x.ownBlock := by
        rw [e1]; unfold oB
        split
        · rename_i q; cases q; exact absurd rfl hc
        · rfl
      simp only [Env.withRow, if_true, this]
theorem rowR_zero {E : Env} {c e : Nat} {ks : List CK} {l : List SV} {w' : World} {ad : Option Addr} (hl : l = []) : RowR (E.withRow c (.slice ad 0 0)) w' c e ks l := by
  subst hl
  exact ⟨fun v hv => (by cases hv), .inr ⟨rfl, (by simp [Env.withRow, oB]), ad, (by simp [Env.withRow])⟩⟩

/-- A slice of the function's own is new, or is another one. -/
theorem Rel.rowG (h : Rel P cx.nt B M I0 G w0 E s a w) {c ver e : Nat} {ks : List CK} {l : List SV} {x : Value} {w' : World} {row : Option Nat} {ch : List (Nat × Chunk)} {fz : List (Nat × Chunk)}
    (hfz : ch = (c, .row ver e ks l) :: fz) (hfz' : ∀ k, lkO fz k = none)
    (hc : (lkO s.mem c = none ∧ row = none) ∨ ∃ v, verOf (lkO s.mem c) = some v ∧ v < ver)
    (hg : w.grownBy w' row) (hrow : ∀ k, row = some k → E.loc c = some k)
    (hloc : ∀ b, oB x = some b → b < w'.heap.size ∧ ((lkO s.mem c ≠ none ∧ E.loc c = some b) ∨ w.heap.size ≤ b))
    (hR : RowR (E.withRow c x) w' c e ks l)
    {d : Option Nat} (hd : ∀ k, d = some k → k < cx.nt) :
    Rel P cx.nt B M I0 G w0 (E.withRow c x) (upd s d (.osl c ver) ch) (a.put d x) w' := by
  subst hfz
  have hlk : ∀ k, lkO (((c, Chunk.row ver e ks l) :: fz) ++ s.mem) k = if c = k then some (.row ver e ks l) else lkO s.mem k := fun k => by
    rw [List.cons_append, lkO_cons, lkO_append, hfz']
  have hI : ∀ b, E.I b → w'.heap[b]? = w.heap[b]? := fun b hb => hg.block b (h.inew b hb).1 (fun e => (h.loc c b (hrow b e.symm)).2.1 hb)
  have hm : ∀ y u, CV E (lkO s.mem) w y u → CV (E.withRow c x) (lkO (((c, Chunk.row ver e ks l) :: fz) ++ s.mem)) w' y u := fun y u hy => by
    refine CV.mono (E := E) (m := lkO s.mem) (w := w) (fun _ h => h) hI (fun k t cs b h1 h2 => ?_) (hq_of fun k b h1 h2 => ?_) (fun k v h1 => ?_) hy
    · have hk : ¬ k = c := fun e => by
        subst e
        rcases hc with ⟨hc, _⟩ | ⟨v, hc, _⟩
        · rw [hc] at h1; cases h1
        · rw [h1] at hc; cases hc
      exact ⟨⟨t, cs, by rw [hlk, if_neg (fun e => hk e.symm)]; exact h1⟩, by simp only [Env.withRow]; rw [if_neg hk]; exact h2⟩
    · have hk : ¬ k = c := fun e => by
        subst e
        rcases hc with ⟨hc, _⟩ | ⟨v, hc, _⟩
        · exact isPt_none h1 hc
        · exact isPt_ver h1 hc
      exact ⟨by rw [hlk, if_neg (fun e => hk e.symm)], by simp only [Env.withRow]; rw [if_neg hk]; exact h2⟩
    · by_cases hk : k = c
      · subst hk
        rcases hc with ⟨hc, _⟩ | ⟨v0, hc, hlt⟩
        · rw [hc] at h1; cases h1
        · rw [hc] at h1
          simp only [Option.some.injEq] at h1
          subst h1
          exact ⟨ver, by rw [hlk, if_pos rfl]; rfl, by omega, fun e => by omega⟩
      · exact ⟨v, by rw [hlk, if_neg (fun e => hk e.symm)]; exact h1, Nat.le_refl _, fun _ => ⟨by simp only [Env.withRow]; rw [if_neg hk], fun b hb => by simp only [Env.withRow] at hb; rw [if_neg hk] at hb; exact hb⟩⟩
  refine h.next hd ⟨hg.os, hg.tape, hg.output, hg.size, fun k hk hM => hg.block k (Nat.lt_of_lt_of_le hk h.base) (fun e => ?_)⟩ (fun _ h => h) (fun b hb => ⟨Nat.lt_of_lt_of_le (h.inew b hb).1 hg.size, (h.inew b hb).2⟩) ?_ ?_ hm ?_ ?_
  · have := (h.loc c k (hrow k e.symm)).2.2
    rcases this with h1 | h1 | h1
    · omega
    · exact hM h1
    · rcases hc with ⟨_, hc⟩ | ⟨v, hc, _⟩
      · rw [hc] at e; cases e
      · rw [h1.2] at hc; cases hc
  · intro k b hb
    rw [hlk]
    simp only [Env.withRow] at hb
    by_cases hk : k = c
    · rw [if_pos hk] at hb
      obtain ⟨h1, h2⟩ := hloc b hb
      rcases h2 with ⟨h3, h2⟩ | h2
      · obtain ⟨q1, q2, q3⟩ := h.loc c b h2
        refine ⟨h1, q2, ?_⟩
        rcases q3 with q3 | q3 | q3
        · exact .inl q3
        · exact .inr (.inl q3)
        · rcases hc with ⟨hc, _⟩ | ⟨v, hc, _⟩
          · exact (h3 hc).elim
          · rw [hc] at q3; cases q3.2
      · exact ⟨h1, fun hI' => by have := (h.inew b hI').1; omega, .inl (Nat.le_trans h.base h2)⟩
    · rw [if_neg hk] at hb
      obtain ⟨h1, h2⟩ := h.loc k b hb
      rw [if_neg (fun e => hk e.symm)]
      exact ⟨Nat.lt_of_lt_of_le h1 hg.size, h2⟩
  · intro k k' b hb hb'
    simp only [Env.withRow] at hb hb'
    by_cases hk : k = c <;> by_cases hk' : k' = c
    · rw [hk, hk']
    · rw [if_pos hk] at hb
      rw [if_neg hk'] at hb'
      rcases (hloc b hb).2 with ⟨_, h2⟩ | h2
      · exact (hk' (h.inj k' c b hb' h2)).elim
      · have := (h.loc k' b hb').1; omega
    · rw [if_neg hk] at hb
      rw [if_pos hk'] at hb'
      rcases (hloc b hb').2 with ⟨_, h2⟩ | h2
      · exact (hk (h.inj k c b hb h2)).elim
      · have := (h.loc k b hb).1; omega
    · rw [if_neg hk] at hb
      rw [if_neg hk'] at hb'
      exact h.inj k k' b hb hb'
  · exact .osl _ c ver ver (by rw [hlk, if_pos rfl]; rfl) (Nat.le_refl _) (fun _ => by simp [Env.withRow])
  · intro k
    rw [hlk]
    by_cases hk : c = k
    · subst hk
      rw [if_pos rfl]
      exact hR
    · rw [if_neg hk]
      have hk' : ¬ k = c := fun e => hk e.symm
      exact ChR.mono (E := E) (m := lkO s.mem) (w := w) (fun _ h => h) hI hm (by simp only [Env.withRow]; rw [if_neg hk']) (by simp only [Env.withRow]; rw [if_neg hk'])
        (fun b hb => hg.block b (h.loc k b hb).1 (fun e => hk' (h.inj k c b hb (hrow b e.symm)))) (h.ch k)

theorem Rel.row (h : Rel P cx.nt B M I0 G w0 E s a w) {c ver e : Nat} {ks : List CK} {l : List SV} {x : Value} {w' : World} {row : Option Nat} {ch : List (Nat × Chunk)} {fz : List (Nat × Chunk)}
    (hfz : ch = (c, .row ver e ks l) :: fz) (hfz' : ∀ k, lkO fz k = none)
    (hc : (lkO s.mem c = none ∧ row = none) ∨ ∃ v, verOf (lkO s.mem c) = some v ∧ v < ver)
    (hg : w.grownBy w' row) (hrow : ∀ k, row = some k → E.loc c = some k)
    (hloc : ∀ b, x.ownBlock = some b → b < w'.heap.size ∧ ((lkO s.mem c ≠ none ∧ E.loc c = some b) ∨ w.heap.size ≤ b))
    (hsh : ∀ v, v ∈ l → shOk ks v) {xs : List Value} (hown : w'.ownsRow 0 e ks.length x l.length xs) (hx : ∀ i j, i < l.length → j < ks.length → Conc E.I w' (xs.getD (i * ks.length + j) undef) (elCell l i j))
    {d : Option Nat} (hd : ∀ k, d = some k → k < cx.nt) :
    Rel P cx.nt B M I0 G w0 (E.withRow c x) (upd s d (.osl c ver) ch) (a.put d x) w' :=
  h.rowG hfz hfz' hc hg hrow (fun b hb => hloc b (oB_some hb)) (rowR_own hsh hown hx) hd
/-- .. one without elements, and without room. -/
theorem Rel.rowZ (h : Rel P cx.nt B M I0 G w0 E s a w) {c ver e : Nat} {ks : List CK} {l : List SV} {ad : Option Addr}
    (hc : lkO s.mem c = none ∨ ∃ v, verOf (lkO s.mem c) = some v ∧ v < ver) (hl : l = []) {d : Option Nat} (hd : ∀ k, d = some k → k < cx.nt) :
    Rel P cx.nt B M I0 G w0 (E.withRow c (.slice ad 0 0)) (upd s d (.osl c ver) [(c, .row ver e ks l)]) (a.put d (.slice ad 0 0)) w :=
  h.rowG (row := none) rfl (fun _ => rfl) (hc.imp (fun h => ⟨h, rfl⟩) (fun h => h)) ⟨rfl, rfl, rfl, Nat.le_refl _, fun _ _ _ => rfl⟩ (fun k hk => by cases hk) (fun b hb => by cases hb) (rowR_zero hl) hd

/-- Slices of the function's own are written no more. -/
theorem Rel.freeze1 (h : Rel P cx.nt B M I0 G w0 E s a w) {c v e : Nat} {ks : List CK} {l : List SV} (hc : lkO s.mem c = some (.row v e ks l)) :
    ∃ E', Rel P cx.nt B M I0 G w0 E' ⟨s.tm, (c, .froz v ks l) :: s.mem⟩ a w ∧ (∀ b, E.I b → E'.I b) ∧ E'.cv = E.cv := by
  have hr : RowR E w c e ks l := by have := h.ch c; rw [hc] at this; exact this
  let E' : Env := { loc := fun k => if k = c then none else E.loc k, cv := E.cv, I := fun b => E.I b ∨ E.loc c = some b, gv := E.gv }
  have hlk : ∀ k, lkO ((c, Chunk.froz v ks l) :: s.mem) k = if c = k then some (.froz v ks l) else lkO s.mem k := fun k => lkO_cons ..
  have hm : ∀ y u, CV E (lkO s.mem) w y u → CV E' (lkO ((c, Chunk.froz v ks l) :: s.mem)) w y u := fun y u hy => by
    refine CV.mono (E := E) (m := lkO s.mem) (w := w) (fun _ h => .inl h) (fun _ _ => rfl) (fun k t cs b h1 h2 => ?_) (hq_of fun k b h1 h2 => ?_) (fun k v' h1 => ?_) hy
    · have hk : ¬ k = c := fun e => by subst e; rw [hc] at h1; cases h1
      exact ⟨⟨t, cs, by rw [hlk, if_neg (fun e => hk e.symm)]; exact h1⟩, by show (if k = c then none else E.loc k) = some b; rw [if_neg hk]; exact h2⟩
    · have hk : ¬ k = c := fun e => by subst e; exact isPt_row h1 hc
      exact ⟨by rw [hlk, if_neg (fun e => hk e.symm)], by show (if k = c then none else E.loc k) = some b; rw [if_neg hk]; exact h2⟩
    · by_cases hk : k = c
      · subst hk
        rw [hc] at h1
        simp only [verOf, Option.some.injEq] at h1
        subst h1
        exact ⟨v, by rw [hlk, if_pos rfl]; rfl, Nat.le_refl _, fun _ => ⟨rfl, fun b hb => by simp [E'] at hb⟩⟩
      · exact ⟨v', by rw [hlk, if_neg (fun e => hk e.symm)]; exact h1, Nat.le_refl _, fun _ => ⟨rfl, fun b hb => by simpa [E', hk] using hb⟩⟩
  refine ⟨E', ⟨h.defers, h.tsize, h.fr, h.base, fun b hb => .inl (h.i0 b hb), ?_, ?_, ?_, fun t => hm _ _ (h.tm t), ?_, h.ld, h.gv⟩, fun _ h => .inl h, rfl⟩
  · intro b hb
    rcases hb with hb | hb
    · exact h.inew b hb
    · obtain ⟨q1, q2, q3⟩ := h.loc c b hb
      refine ⟨q1, .inr ?_⟩
      rcases q3 with q3 | q3 | q3
      · exact .inl q3
      · exact .inr q3
      · rw [hc] at q3; simp [verOf] at q3
  · intro k b hb
    have hb' : (if k = c then none else E.loc k) = some b := hb
    by_cases hk : k = c
    · rw [if_pos hk] at hb'; cases hb'
    · rw [if_neg hk] at hb'
      obtain ⟨q1, q2, q3⟩ := h.loc k b hb'
      refine ⟨q1, fun hI => ?_, ?_⟩
      · rcases hI with hI | hI
        · exact q2 hI
        · exact hk (h.inj k c b hb' hI)
      · show _ ∨ _ ∨ (_ ∧ verOf (lkO ((c, Chunk.froz v ks l) :: s.mem) k) = none)
        rw [hlk, if_neg (fun e => hk e.symm)]
        exact q3
  · intro k k' b hb hb'
    have hb1 : (if k = c then none else E.loc k) = some b := hb
    have hb2 : (if k' = c then none else E.loc k') = some b := hb'
    by_cases hk : k = c
    · rw [if_pos hk] at hb1; cases hb1
    · by_cases hk' : k' = c
      · rw [if_pos hk'] at hb2; cases hb2
      · rw [if_neg hk] at hb1
        rw [if_neg hk'] at hb2
        exact h.inj k k' b hb1 hb2
  · intro k
    show ChR E' (lkO ((c, Chunk.froz v ks l) :: s.mem)) w k (lkO ((c, Chunk.froz v ks l) :: s.mem) k)
    rw [hlk]
    by_cases hk : c = k
    · subst hk
      rw [if_pos rfl]
      exact hr.toConc (I := E'.I) (fun _ h => .inl h) (fun b hb => .inr hb)
    · rw [if_neg hk]
      have hk' : ¬ k = c := fun e => hk e.symm
      exact ChR.mono (E := E) (m := lkO s.mem) (w := w) (fun _ h => .inl h) (fun _ _ => rfl) hm (by show (if k = c then none else E.loc k) = E.loc k; rw [if_neg hk']) rfl (fun _ _ => rfl) (h.ch k)

theorem freezes_lk {m : List (Nat × Chunk)} {c v e : Nat} {ks : List CK} {l : List SV} (hm : lkO m c = some (.row v e ks l)) : ∀ cs, lkO (freezes m cs) c = none ∨ lkO (freezes m cs) c = some (.froz v ks l)
  | [] => .inl rfl
  | d :: r => by
    have ih := freezes_lk hm r
    simp only [freezes]
    split
    · rename_i v2 e2 ks2 l2 hd
      rw [lkO_cons]
      by_cases e3 : d = c
      · subst e3; rw [hm] at hd; cases hd; exact .inr (if_pos rfl)
      · rw [if_neg e3]; exact ih
    · exact ih

/-- .. several of them. -/
theorem Rel.freeze : ∀ (cs : List Nat) {E : Env} {s : St} (m : List (Nat × Chunk)), Rel P cx.nt B M I0 G w0 E s a w → (∀ c, c ∈ cs → lkO s.mem c = lkO m c ∨ ∃ v e ks l, lkO m c = some (.row v e ks l) ∧ lkO s.mem c = some (.froz v ks l)) →
    ∃ E' s', Rel P cx.nt B M I0 G w0 E' s' a w ∧ s'.tm = s.tm ∧ (∀ k, lkO s'.mem k = (match lkO (freezes m cs) k with | some ch => some ch | none => lkO s.mem k)) ∧ (∀ b, E.I b → E'.I b) ∧ E'.cv = E.cv
  | [], E, s, m, h, _ => ⟨E, s, h, rfl, fun k => by simp [freezes, lkO], fun _ h => h, rfl⟩
  | c :: cs, E, s, m, h, hc => by
    by_cases hrow : ∃ v e ks l, lkO m c = some (.row v e ks l)
    · obtain ⟨v, e, ks, l, hm⟩ := hrow
      have hfz : freezes m (c :: cs) = (c, .froz v ks l) :: freezes m cs := by simp only [freezes, hm]
      rcases hc c (List.mem_cons_self ..) with h0 | ⟨v', e', ks', l', h0, h0'⟩
      · rw [hm] at h0
        obtain ⟨E1, h1, h2, h3⟩ := h.freeze1 h0
        obtain ⟨E', s', q1, q2, q3, q4, q5⟩ := Rel.freeze cs m h1 (fun k hk => by
          dsimp only
          rw [lkO_cons]
          by_cases e1 : c = k
          · subst e1; rw [if_pos rfl]; exact .inr ⟨v, e, ks, l, hm, rfl⟩
          · rw [if_neg e1]; exact hc k (List.mem_cons_of_mem _ hk))
        refine ⟨E', s', q1, q2, fun k => ?_, fun b hb => q4 b (h2 b hb), q5.trans h3⟩
        rw [q3, hfz]
        dsimp only
        rw [lkO_cons, lkO_cons]
        by_cases e1 : c = k
        · subst e1
          rw [if_pos rfl, if_pos rfl]
          rcases freezes_lk hm cs with e2 | e2 <;> rw [e2]
        · rw [if_neg e1, if_neg e1]
      · rw [hm] at h0
        cases h0
        obtain ⟨E', s', q1, q2, q3, q4, q5⟩ := Rel.freeze cs m h (fun k hk => hc k (List.mem_cons_of_mem _ hk))
        refine ⟨E', s', q1, q2, fun k => ?_, q4, q5⟩
        rw [q3, hfz, lkO_cons]
        by_cases e1 : c = k
        · subst e1
          rw [if_pos rfl]
          rcases freezes_lk hm cs with e2 | e2 <;> rw [e2]
          exact h0'
        · rw [if_neg e1]
    · obtain ⟨E', s', q1, q2, q3, q4, q5⟩ := Rel.freeze cs m h (fun k hk => hc k (List.mem_cons_of_mem _ hk))
      have hfz : freezes m (c :: cs) = freezes m cs := by
        simp only [freezes]
        split
        · rename_i v e ks l hm; exact (hrow ⟨v, e, ks, l, hm⟩).elim
        · rfl
      exact ⟨E', s', q1, q2, fun k => by rw [q3, hfz], q4, q5⟩
end
end Go.Rx

