/- The framework, an effect's contract: a box that holds a map and a number is lent to a function, which may write both. -/
import Derived.Test.YtcehjhdgdgkkgaaDoorJ3
namespace Go.Rx
set_option linter.unusedSectionVars false
set_option linter.unusedVariables false
set_option linter.unusedSimpArgs false
open Go.RowKit

def fx0 : Cx := ⟨0, [], [], false, 0, [], false⟩
def fx1 : Cx := ⟨1, [], [], false, 0, [], false⟩
/-- The memory in which the function is gone through. -/
def bkM (t t2 : Nat) (n : Int) (la : List SV) (ck : Nat) : List (Nat × Chunk) :=
  [(9980, .box t [.mpp 9981, .int .i64 n]), (9981, .mp t2 .str (.int .i64) la ck), (9982, .gh (.ptr 9980 0)), (9983, .gh (.mpp 9981))]
def isG0 : Option Chunk → Bool
  | some (.gh (.ptr c o)) => Nat.beq c 9980 && Nat.beq o 0
  | _ => false
def isG1 : Option Chunk → Bool
  | some (.gh (.mpp c)) => Nat.beq c 9981
  | _ => false
/-- What must hold at its end. -/
def bkEnd (fl : Bool) (t t2 : Nat) (Q : SV → Int → List SV → Nat → Prop) (r : SV) (m : List (Nat × Chunk)) : Prop :=
  match lkO m 9980, lkO m 9981 with
  | some (.box t' [.mpp c, .int .i64 n]), some (.mp t2' .str (.int .i64) la ck) =>
    match Nat.beq c 9981 && (Nat.beq t t' && (Nat.beq t2 t2' && (isG0 (lkO m 9982) && (isG1 (lkO m 9983) && (closed (resolve m r) && (!fl || plainR (resolve m r))))))) with
    | true => Q (resolve m r) n la ck
    | false => False
  | _, _ => False
/-- The other arguments, as they are handed over. -/
def lendA (fl : Bool) (m : List (Nat × Chunk)) (vs : List SV) : List SV :=
  match fl with
  | true => resolveL m vs
  | false => vs
/-- The contract, as what is asked where it is called. -/
def bookT {ι : Type} (rf : ι → SV) (fl : Bool) (pre : Nat → Nat → Int → List SV → Nat → List SV → Prop) (post : Int → List SV → Nat → List SV → ι → Int → List SV → Nat → Prop) : Tr := fun _ us m K => match us with
  | .ptr b 0 :: vs => match lkO m b with
    | some (.box t [.mpp c, .int .i64 n]) => match lkO m c with
      | some (.mp t2 .str (.int .i64) la ck) => match closedL (lendA fl m vs) && (!(roK b) && (!(roK c) && !(Nat.beq b c))) with
        | true => pre t t2 n la ck (lendA fl m vs) ∧ ∀ r n' la' ck', post n la ck (lendA fl m vs) r n' la' ck' → K (rf r) ((b, .box t [.mpp c, .int .i64 n']) :: (c, .mp t2 .str (.int .i64) la' ck') :: m)
        | false => False
      | _ => False
    | _ => False
  | _ => False

/-- .. of a function that only reads. -/
def bookR {ι : Type} (rf : ι → SV) (pre : Nat → Nat → Int → List SV → Nat → List SV → Prop) (post : Int → List SV → Nat → List SV → ι → Prop) : Tr := fun _ us m K => match us with
  | .ptr b 0 :: vs => match lkO m b with
    | some (.box t [.mpp c, .int .i64 n]) => match lkO m c with
      | some (.mp t2 .str (.int .i64) la ck) => match closedL vs && (!(roK b) && (!(roK c) && !(Nat.beq b c))) with
        | true => pre t t2 n la ck vs ∧ ∀ r, post n la ck vs r → K (rf r) m
        | false => False
      | _ => False
    | _ => False
  | _ => False

section
variable {P : Program} [Laid P] {B : Nat} {M I0 : Nat → Prop} {G : Nat → Value} {w0 : World} {E : Env} {w : World}

/-- The function, gone through in a memory of these two alone. -/
theorem book_core {f : Nat} {T0 : Tr} (hT : InK P f T0) {fl : Bool} {t t2 : Nat} {n : Int} {la : List SV} {ck : Nat} {vs : List SV} {Q : SV → Int → List SV → Nat → Prop}
    (H : T0 1000000 (.ptr 9980 0 :: vs) (bkM t t2 n la ck) (bkEnd fl t t2 Q)) {I1 : Nat → Prop} {xs : Array Value} (hxs : xs.size = (SV.ptr 9980 0 :: vs).length) {bb cb : Nat} {ys : Array Value}
    (hx0 : xs.getD 0 undef = .pointer (some ⟨bb, 0, none⟩)) (hxv : ∀ i, Conc I1 w (xs.getD (i + 1) undef) (vs.getD i .any)) (hne : bb ≠ cb) (hbs : bb < w.heap.size) (hcs : cb < w.heap.size)
    (hI : ∀ b, I1 b → b < w.heap.size ∧ b ≠ bb ∧ b ≠ cb) (hbox : w.heap[bb]? = some (.cells ys t (0, 0))) (hys : ys.size = 2) (hy0 : ys.getD 0 undef = .map (some cb)) (hy1 : ys.getD 1 undef = .int .i64 n)
    (hmap : MapR I1 w cb .str (.int .i64) la ck) (hld : ∀ w', Fr w.heap.size (fun k => k = bb ∨ k = cb) w w' → Laid.ok P w') :
    Calls P f xs w fun e w' => ∃ (x : Value) (r : SV) (n' : Int) (la' : List SV) (ck' : Nat) (I' : Nat → Prop) (zs : Array Value), e = .returned x ∧ Q r n' la' ck' ∧ closed r = true ∧ (fl = true → plainR r = true) ∧ Conc I' w' x r ∧ (∀ b, I1 b → I' b) ∧
      (∀ b, I' b → b < w'.heap.size ∧ (I1 b ∨ w.heap.size ≤ b)) ∧ Fr w.heap.size (fun k => k = bb ∨ k = cb) w w' ∧ w'.heap[bb]? = some (.cells zs t (0, 0)) ∧ zs.size = 2 ∧ zs.getD 0 undef = .map (some cb) ∧ zs.getD 1 undef = .int .i64 n' ∧ MapR I' w' cb .str (.int .i64) la' ck' := by
  let E0 : Env := ⟨fun k => if k = 9980 then some bb else if k = 9981 then some cb else none, fun _ => undef, I1, fun k => if k = 9982 then .pointer (some ⟨bb, 0, none⟩) else .map (some cb)⟩
  have hl0 : lkO (bkM t t2 n la ck) 9980 = some (.box t [.mpp 9981, .int .i64 n]) := rfl
  have hl1 : lkO (bkM t t2 n la ck) 9981 = some (.mp t2 .str (.int .i64) la ck) := rfl
  have hmpp : CV E0 (lkO (bkM t t2 n la ck)) w (.map (some cb)) (.mpp 9981) := .mpp 9981 cb rfl (by simp [E0])
  have hptr : CV E0 (lkO (bkM t t2 n la ck)) w (.pointer (some ⟨bb, 0, none⟩)) (.ptr 9980 0) := .ptr 9980 0 bb t _ hl0 (by simp [E0])
  have hrel : Rel P 0 w.heap.size (fun k => k = bb ∨ k = cb) I1 E0.gv w E0 ⟨[], bkM t t2 n la ck⟩ ⟨#[], []⟩ w := by
    refine ⟨rfl, rfl, Fr.refl _ _ _, Nat.le_refl _, fun b hb => hb, fun b hb => ⟨(hI b hb).1, .inl hb⟩, fun c b hb => ?_, fun c c' b hb hb' => ?_, fun t => .conc _ _ (.any _), fun c => ?_, hld, rfl⟩
    · simp only [E0] at hb
      by_cases h1 : c = 9980
      · subst h1
        simp only [if_true, Option.some.injEq] at hb
        subst hb
        exact ⟨hbs, fun h => (hI _ h).2.1 rfl, .inr (.inl (.inl rfl))⟩
      · rw [if_neg h1] at hb
        by_cases h2 : c = 9981
        · subst h2
          simp only [if_true, Option.some.injEq] at hb
          subst hb
          exact ⟨hcs, fun h => (hI _ h).2.2 rfl, .inr (.inl (.inr rfl))⟩
        · rw [if_neg h2] at hb; cases hb
    · simp only [E0] at hb hb'
      by_cases h1 : c = 9980 <;> by_cases h2 : c' = 9980
      · rw [h1, h2]
      · subst h1
        rw [if_neg h2] at hb'
        by_cases h3 : c' = 9981
        · subst h3
          simp only [if_true, Option.some.injEq] at hb hb'
          exact absurd (hb.trans hb'.symm) hne
        · rw [if_neg h3] at hb'; cases hb'
      · subst h2
        rw [if_neg h1] at hb
        by_cases h3 : c = 9981
        · subst h3
          simp only [if_true, Option.some.injEq] at hb hb'
          exact absurd (hb'.trans hb.symm) hne
        · rw [if_neg h3] at hb; cases hb
      · rw [if_neg h1] at hb
        rw [if_neg h2] at hb'
        by_cases h3 : c = 9981 <;> by_cases h4 : c' = 9981
        · rw [h3, h4]
        · rw [if_neg h4] at hb'; cases hb'
        · rw [if_neg h3] at hb; cases hb
        · rw [if_neg h3] at hb; cases hb
    · dsimp only [bkM]
      rw [lkO_cons]
      by_cases h0 : 9980 = c
      · subst h0
        rw [if_pos rfl]
        refine ⟨bb, ys, by simp [E0], hbox, by rw [hys]; rfl, fun i => ?_⟩
        match i with
        | 0 => rw [hy0]; exact hmpp
        | 1 => rw [hy1]; exact .conc _ _ (.int _ _)
        | i + 2 => exact .conc _ _ (by simpa using Conc.any _)
      · rw [if_neg h0, lkO_cons]
        by_cases h1 : 9981 = c
        · subst h1
          rw [if_pos rfl]
          exact ⟨cb, by simp [E0], hmap⟩
        · rw [if_neg h1, lkO_cons]
          by_cases h2 : 9982 = c
          · subst h2
            rw [if_pos rfl]
            show CV E0 _ w (E0.gv 9982) _
            simp only [E0, if_true]; exact hptr
          · rw [if_neg h2, lkO_cons]
            by_cases h3 : 9983 = c
            · subst h3
              rw [if_pos rfl]
              show CV E0 _ w (E0.gv 9983) _
              simp only [E0]; exact hmpp
            · rw [if_neg h3]; trivial
  refine (hT.2 1000000 _ _ _ _ _ _ _ _ _ xs _ hrel hxs (fun i => ?_) H).mono ?_
  · match i with
    | 0 => rw [hx0]; exact hptr
    | i + 1 => simpa using (CV.conc (E := E0) (m := lkO (bkM t t2 n la ck)) _ _ (hxv i))
  rintro e w' ⟨x, r, m', E', rfl, h1, h2, h3⟩
  unfold bkEnd at h3
  split at h3
  · rename_i t' c n' t2' la' ck' q0 q1
    split at h3
    · rename_i hb
      simp only [Bool.and_eq_true] at hb
      obtain ⟨b1, b2, b3, b4, b5, b6, b7⟩ := hb
      have b1 := Nat.eq_of_beq_eq_true b1
      have b2 := Nat.eq_of_beq_eq_true b2
      have b3 := Nat.eq_of_beq_eq_true b3
      subst b1 b2 b3
      -- what is handed back is frozen
      have h1' : Rel P fx1.nt w.heap.size (fun k => k = bb ∨ k = cb) I1 E0.gv w E' ⟨[(0, r)], m'⟩ ⟨#[x], []⟩ w' := by
        refine ⟨rfl, rfl, h1.fr, h1.base, h1.i0, h1.inew, h1.loc, h1.inj, fun t => ?_, h1.ch, h1.ld, h1.gv⟩
        match t with
        | 0 => exact h2
        | t + 1 => exact .conc _ _ (.any _)
      obtain ⟨E2, s2, p1, p2, p3, p4, p5⟩ := Rel.freeze (cx := fx1) (names r) m' h1' (fun _ _ => .inl rfl)
      have hfz := frozen_of p3
      have keep : ∀ k ch, lkO m' k = some ch → (∀ v e ks l, ch ≠ .row v e ks l) → lkO s2.mem k = some ch := fun k ch hk hn => by
        rw [p3, freezes_none (fun v e ks l h => hn v e ks l (by rw [hk] at h; exact Option.some.inj h)) _]; exact hk
      have g0 : E2.loc 9980 = some bb := by
        unfold isG0 at b4
        split at b4
        · rename_i c o hg
          simp only [Bool.and_eq_true] at b4
          have e1 := Nat.eq_of_beq_eq_true b4.1
          have e2 := Nat.eq_of_beq_eq_true b4.2
          subst e1 e2
          have := p1.ch 9982
          rw [keep _ _ hg (fun v e ks l h => by cases h)] at this
          have this : CV E2 _ w' (E2.gv 9982) (.ptr 9980 0) := this
          rw [p1.gv] at this
          simp only [E0, if_true] at this
          obtain ⟨b', t', cs', e1, _, e3⟩ := this.inv_ptr
          cases e1; exact e3
        · cases b4
      have g1 : E2.loc 9981 = some cb := by
        unfold isG1 at b5
        split at b5
        · rename_i c hg
          have e1 := Nat.eq_of_beq_eq_true b5
          subst e1
          have := p1.ch 9983
          rw [keep _ _ hg (fun v e ks l h => by cases h)] at this
          have this : CV E2 _ w' (E2.gv 9983) (.mpp 9981) := this
          rw [p1.gv] at this
          simp only [E0] at this
          obtain ⟨b', e1, _, e3⟩ := this.inv_mpp
          cases e1; exact e3
        · cases b5
      have c0 := p1.ch 9980
      rw [keep _ _ q0 (fun v e ks l h => by cases h)] at c0
      obtain ⟨b', zs, z1, z2, z3, z4⟩ := c0
      rw [g0] at z1
      cases z1
      have c1 := p1.ch 9981
      rw [keep _ _ q1 (fun v e ks l h => by cases h)] at c1
      obtain ⟨b', y1, y2⟩ := c1
      rw [g1] at y1
      cases y1
      -- the value itself: it was one of the state ahead of the freezing; the slots are none, so it is told by the memory alone
      have hcv : CV E2 (lkO s2.mem) w' x r := by
        have := p1.tm 0
        rw [p2] at this
        exact this
      refine ⟨x, resolve m' r, n', la', ck', E2.I, zs, rfl, h3, b6, fun hf => by rw [hf] at b7; simpa using b7, closed_conc _ _ b6 (resolve_cv (m := m') p1.ch r x hfz hcv), p1.i0, (fun b hb => ⟨(p1.inew b hb).1, (p1.inew b hb).2.imp id fun q => q.elim id fun q => q.elim (fun e => absurd (e ▸ hb) (p1.loc 9980 bb g0).2.1) (fun e => absurd (e ▸ hb) (p1.loc 9981 cb g1).2.1)⟩), p1.fr, z2, by rw [z3]; rfl, ?_, ?_, y2⟩
      · have := (z4 0).inv_mpp
        obtain ⟨b', e1, _, e3⟩ := this
        rw [g1] at e3
        cases e3; exact e1
      · have := z4 1
        exact (show CV E2 _ w' (zs.getD 1 undef) (.int .i64 n') from this).inv_int
    · exact h3.elim
  · exact h3.elim

theorem lendA_len (fl : Bool) (m : List (Nat × Chunk)) (vs : List SV) : (lendA fl m vs).length = vs.length := by
  cases fl
  · rfl
  · exact resolveL_length vs

theorem map_flat {I I' : Nat → Prop} {w' : World} {cb : Nat} {la : List SV} {ck : Nat} (h : MapR I w' cb .str (.int .i64) la ck) : MapR I' w' cb .str (.int .i64) la ck := by
  obtain ⟨es, h1, h2, h3, h4⟩ := h
  refine ⟨es, h1, ?_, h3, h4⟩
  have : ∀ (es : List MapEntry) (l : List SV), EsR I w' .str (.int .i64) es l → EsR I' w' .str (.int .i64) es l := by
    intro es
    induction es with
    | nil => intro l h; cases l with
      | nil => trivial
      | cons v l => exact h.elim
    | cons e es ih => intro l h; cases l with
      | nil => exact h.elim
      | cons v l =>
        obtain ⟨⟨a1, a2, a3, a4⟩, a5⟩ := h
        exact ⟨⟨a1, flat_conc (k := .str) (fun q h => by cases h) (fun h => by cases h) (a1.2 0 (by decide)) a2, flat_conc (k := .int .i64) (fun q h => by cases h) (fun h => by cases h) (a1.2 1 (by decide)) a3, a4⟩, ih l a5⟩
  exact this _ _ h2

/-- .. in whatever memory. -/
theorem book_in {f : Nat} {T0 : Tr} (hT : InK P f T0) {ι : Type} (rf : ι → SV) (fl : Bool) {pre : Nat → Nat → Int → List SV → Nat → List SV → Prop} {post : Int → List SV → Nat → List SV → ι → Int → List SV → Nat → Prop}
    (H : ∀ t t2 n la ck vs, pre t t2 n la ck vs → T0 1000000 (.ptr 9980 0 :: vs) (bkM t t2 n la ck) (bkEnd fl t t2 (fun r n' la' ck' => ∃ y, r = rf y ∧ post n la ck vs y n' la' ck'))) : InK P f (bookT rf fl pre post) := by
  refine ⟨hT.1, fun off B M I0 G w0 E m w us xs K h hxs hx hk => ?_⟩
  unfold bookT at hk
  split at hk
  · rename_i b vs
    split at hk
    · rename_i t c n hmb
      split at hk
      · rename_i t2 la ck hmc
        split at hk
        · rename_i hb
          simp only [Bool.and_eq_true, Bool.not_eq_true'] at hb
          obtain ⟨hcl, hrb, hrc, hbc⟩ := hb
          have hbc : b ≠ c := fun e => by subst e; rw [Nat.beq_refl] at hbc; cases hbc
          obtain ⟨hpre, hK⟩ := hk
          obtain ⟨bb, t', cs', e1, e2, e3⟩ := (show CV E (lkO m) w (xs.getD 0 undef) (.ptr b 0) from hx 0).inv_ptr
          have hbox := h.ch b
          rw [show lkO (St.mem ⟨[], m⟩) b = lkO m b from rfl, hmb] at hbox
          obtain ⟨bb', ys, z1, z2, z3, z4⟩ := hbox
          rw [e3] at z1
          cases z1
          obtain ⟨cb, y0, _, hlc⟩ := (show CV E (lkO m) w (ys.getD 0 undef) (.mpp c) from z4 0).inv_mpp
          have y1 := (show CV E (lkO m) w (ys.getD 1 undef) (.int .i64 n) from z4 1).inv_int
          have hmap := h.ch c
          rw [show lkO (St.mem ⟨[], m⟩) c = lkO m c from rfl, hmc] at hmap
          obtain ⟨cb', l1, hmp⟩ := hmap
          rw [hlc] at l1
          cases l1
          have hne : bb ≠ cb := fun e => by subst e; exact hbc (h.inj b c bb e3 hlc)
          have hbl := h.loc b bb e3
          have hclc := h.loc c cb hlc
          have hfrz : ∃ I1 : Nat → Prop, (∀ k, E.I k → I1 k) ∧ (fl = false → I1 = E.I) ∧ (∀ k, I1 k → k < w.heap.size ∧ k ≠ bb ∧ k ≠ cb) ∧ ∀ i, Conc I1 w (xs.getD (i + 1) undef) ((lendA fl m vs).getD i .any) := by
            cases fl with
            | false =>
              exact ⟨E.I, fun _ h => h, fun _ => rfl, fun k hk => ⟨(h.inew k hk).1, fun e => hbl.2.1 (e ▸ hk), fun e => hclc.2.1 (e ▸ hk)⟩, fun i => closedL_conc vs hcl i _ (by simpa using hx (i + 1))⟩
            | true =>
              have h1 : Rel P (⟨xs.size, [], [], false, 0, [], false⟩ : Cx).nt B M I0 G w0 E ⟨args0 0 (.ptr b 0 :: vs), m⟩ ⟨xs, []⟩ w := by
                refine ⟨rfl, rfl, h.fr, h.base, h.i0, h.inew, h.loc, h.inj, fun t => ?_, h.ch, h.ld, h.gv⟩
                dsimp only
                rw [args0_lk, if_pos (Nat.zero_le _), Nat.sub_zero]
                exact hx t
              obtain ⟨E', s', q1, q2, q3, q4, q5⟩ := h1.freeze (namesL vs) m (fun _ _ => .inl rfl)
              have keep : ∀ k ch, lkO m k = some ch → (∀ v e ks l, ch ≠ .row v e ks l) → lkO s'.mem k = some ch := fun k ch hk hn => by
                rw [q3, freezes_none (fun v e ks l h => hn v e ks l (by rw [hk] at h; exact Option.some.inj h)) _]; exact hk
              have t0 := q1.tm 0
              rw [q2] at t0
              obtain ⟨bb2, _, _, p1, _, p3⟩ := (show CV E' (lkO s'.mem) w (xs.getD 0 undef) (.ptr b 0) from t0).inv_ptr
              rw [e1] at p1
              cases p1
              have c0 := q1.ch b
              rw [keep _ _ hmb (fun v e ks l h => by cases h)] at c0
              obtain ⟨b3, ys2, r1, r2, r3, r4⟩ := c0
              rw [p3] at r1
              cases r1
              rw [z2] at r2
              cases r2
              obtain ⟨cb2, r5, _, r6⟩ := (show CV E' (lkO s'.mem) w (ys.getD 0 undef) (.mpp c) from r4 0).inv_mpp
              rw [y0] at r5
              cases r5
              refine ⟨E'.I, q4, fun h => (by cases h), fun k hk => ⟨(q1.inew k hk).1, fun e => (q1.loc b _ p3).2.1 (e ▸ hk), fun e => (q1.loc c _ r6).2.1 (e ▸ hk)⟩, fun i => ?_⟩
              have ti := q1.tm (i + 1)
              rw [q2] at ti
              dsimp only at ti
              rw [args0_lk, if_pos (Nat.zero_le _), Nat.sub_zero] at ti
              exact closedL_conc _ hcl i _ (resolveL_cv (m := m) q1.ch vs (frozen_of q3) i _ (by simpa using ti))
          obtain ⟨I1, i1, i2, i3, i4⟩ := hfrz
          have roM : ∀ k, k < B → ¬ M k → k ≠ bb ∧ k ≠ cb := by
            intro k hk hM
            constructor
            · intro e
              subst e
              rcases hbl.2.2 with q | q | ⟨q, _⟩
              · omega
              · exact hM q
              · rw [hrb] at q; cases q
            · intro e
              subst e
              rcases hclc.2.2 with q | q | ⟨q, _⟩
              · omega
              · exact hM q
              · rw [hrc] at q; cases q
          have tofr : ∀ w', Fr w.heap.size (fun k => k = bb ∨ k = cb) w w' → Fr B M w w' := fun w' hf => ⟨hf.os, hf.tape, hf.output, hf.size, fun k hk hM => hf.block k (Nat.lt_of_lt_of_le hk h.base) (fun q => by
            obtain ⟨r1, r2⟩ := roM k hk hM
            rcases q with q | q
            · exact r1 q
            · exact r2 q)⟩
          have hcore := book_core (w := w) hT (H t t2 n la ck _ hpre) (I1 := I1) (xs := xs) (by rw [hxs]; simp [lendA_len]) e1 i4 hne hbl.1 hclc.1 i3 z2 (by rw [z3]; rfl) y0 y1
            (by obtain ⟨es, m1, m2, m3, m4⟩ := hmp; exact ⟨es, m1, m2.mono i1 (fun _ _ => rfl), m3, m4⟩) (fun w' hf => h.ld w' (h.fr.trans (tofr w' hf)))
          refine hcore.mono ?_
          rintro e w' ⟨x, r, n', la', ck', I', zs, rfl, ⟨yy, rfl, k1⟩, k2, k3, k4, k5, k6, k7, k8, k9, k10, k11, k12⟩
          let I2 : Nat → Prop := fun k => match fl with | true => E.I k | false => I' k
          have j1 : ∀ k, E.I k → I2 k := fun k hk => by
            simp only [I2]
            cases fl with
            | true => exact hk
            | false => exact k5 k (i1 k hk)
          have j2 : ∀ k, I2 k → k < w'.heap.size ∧ (E.I k ∨ w.heap.size ≤ k) := fun k hk => by
            cases fl with
            | true => exact ⟨Nat.lt_of_lt_of_le (h.inew k hk).1 k7.size, .inl hk⟩
            | false =>
              have := k6 k hk
              rw [i2 rfl] at this
              exact this
          have j3 : Conc I2 w' x (rf yy) := by
            cases fl with
            | true => exact plainR_conc (rf yy) (k3 rfl) _ k4
            | false => exact k4
          have hlk : ∀ k, lkO ((b, Chunk.box t [.mpp c, .int .i64 n']) :: (c, .mp t2 .str (.int .i64) la' ck') :: m) k = if b = k then some (.box t [.mpp c, .int .i64 n']) else if c = k then some (.mp t2 .str (.int .i64) la' ck') else lkO m k := fun k => by rw [lkO_cons, lkO_cons]
          let E2 : Env := ⟨E.loc, E.cv, I2, E.gv⟩
          have hw : ∀ k, E.I k → w'.heap[k]? = w.heap[k]? := fun k hk => k7.block k (h.inew k hk).1 (fun q => by
            rcases q with q | q
            · exact hbl.2.1 (q ▸ hk)
            · exact hclc.2.1 (q ▸ hk))
          have hmm : ∀ x v, CV E (lkO m) w x v → CV E2 (lkO ((b, Chunk.box t [.mpp c, .int .i64 n']) :: (c, .mp t2 .str (.int .i64) la' ck') :: m)) w' x v := fun x v hx => by
            refine CV.mono (E := E) (m := lkO m) (w := w) j1 hw (fun k t0 cs0 b0 u1 u2 => ⟨?_, u2⟩) (fun k b0 u1 u2 => ?_) (fun k v0 u1 => ?_) hx
            · rw [hlk]
              by_cases e4 : b = k
              · rw [if_pos e4]; exact ⟨_, _, rfl⟩
              · rw [if_neg e4]
                by_cases e5 : c = k
                · subst e5; rw [hmc] at u1; cases u1
                · rw [if_neg e5]; exact ⟨t0, cs0, u1⟩
            · rw [hlk]
              by_cases e4 : b = k
              · subst e4; rw [hmb] at u1; rcases u1 with u1 | u1 <;> cases u1
              · rw [if_neg e4]
                by_cases e5 : c = k
                · subst e5; rw [if_pos rfl, hmc]; exact ⟨fun _ => rfl, fun q => (by cases q), u2⟩
                · rw [if_neg e5]; exact ⟨id, id, u2⟩
            · have e4 : ¬ b = k := fun e => by subst e; rw [hmb] at u1; simp [verOf] at u1
              have e5 : ¬ c = k := fun e => by subst e; rw [hmc] at u1; simp [verOf] at u1
              exact ⟨v0, by rw [hlk, if_neg e4, if_neg e5]; exact u1, Nat.le_refl _, fun _ => ⟨rfl, fun _ h => h⟩⟩
          refine ⟨x, rf yy, _, E2, rfl, ⟨rfl, rfl, h.fr.trans (tofr w' k7), by have := h.base; have := k7.size; omega, fun k hk => j1 k (h.i0 k hk), fun k hk => ?_, fun k kb hk => ?_, h.inj, fun t => .conc _ _ (.any _), fun k => ?_, h.ld, h.gv⟩, .conc _ _ j3, hK yy n' la' ck' k1⟩
          · obtain ⟨u1, u2⟩ := j2 k hk
            refine ⟨u1, ?_⟩
            rcases u2 with u2 | u2
            · exact (h.inew k u2).2
            · exact .inr (.inl (Nat.le_trans h.base u2))
          · obtain ⟨u1, u2, u3⟩ := h.loc k kb hk
            refine ⟨Nat.lt_of_lt_of_le u1 k7.size, fun q => ?_, ?_⟩
            · rcases (j2 kb q).2 with q | q
              · exact u2 q
              · omega
            · refine u3.imp id fun q0 => q0.imp id fun q => ⟨q.1, ?_⟩
              dsimp only
              rw [hlk]
              by_cases e4 : b = k
              · rw [if_pos e4]; rfl
              · rw [if_neg e4]
                by_cases e5 : c = k
                · rw [if_pos e5]; rfl
                · rw [if_neg e5]; exact q.2
          · dsimp only
            rw [hlk]
            by_cases e4 : b = k
            · subst e4
              rw [if_pos rfl]
              refine ⟨bb, zs, e3, k8, by rw [k9]; rfl, fun i => ?_⟩
              match i with
              | 0 => rw [k10]; exact .mpp c cb (by rw [hlk, if_neg hbc, if_pos rfl]; rfl) hlc
              | 1 => rw [k11]; exact .conc _ _ (.int _ _)
              | i + 2 => exact .conc _ _ (by simpa using Conc.any _)
            · rw [if_neg e4]
              by_cases e5 : c = k
              · subst e5
                rw [if_pos rfl]
                exact ⟨cb, hlc, map_flat k12⟩
              · rw [if_neg e5]
                refine ChR.mono (E := E) (m := lkO m) (w := w) j1 hw hmm rfl rfl (fun kb hkb => k7.block kb (h.loc k kb hkb).1 (fun q => ?_)) (h.ch k)
                rcases q with q | q
                · subst q; exact e4 (h.inj b k _ e3 hkb)
                · subst q; exact e5 (h.inj c k _ hlc hkb)
        · exact hk.elim
      · exact hk.elim
    · exact hk.elim
  · exact hk.elim

theorem bookR_in {f : Nat} {T0 : Tr} (hT : InK P f T0) {ι : Type} (rf : ι → SV) {pre : Nat → Nat → Int → List SV → Nat → List SV → Prop} {post : Int → List SV → Nat → List SV → ι → Prop}
    (H : ∀ t t2 n la ck vs, pre t t2 n la ck vs → T0 1000000 (.ptr 9980 0 :: vs) (bkM t t2 n la ck) (bkEnd false t t2 (fun r n' la' ck' => ∃ y, r = rf y ∧ post n la ck vs y ∧ n' = n ∧ la' = la ∧ ck' = ck))) : InK P f (bookR rf pre post) := by
  have h0 := book_in hT rf false (pre := pre) (post := fun n la ck vs y n' la' ck' => post n la ck vs y ∧ n' = n ∧ la' = la ∧ ck' = ck) H
  refine ⟨h0.1, fun off B M I0 G w0 E m w us xs K h hxs hx hk => ?_⟩
  have hk1 : bookT rf false pre (fun n la ck vs y n' la' ck' => post n la ck vs y ∧ n' = n ∧ la' = la ∧ ck' = ck) off us m (fun r m' => (∀ k, lkO m' k = lkO m k) ∧ K r m) := by
    unfold bookR at hk
    unfold bookT
    split at hk
    · rename_i b vs
      split at hk
      · rename_i t c n hmb
        split at hk
        · rename_i t2 la ck hmc
          split at hk
          · rename_i hb
            simp only [hmb, hmc, lendA, hb]
            refine ⟨hk.1, fun r n' la' ck' ⟨h1, h2, h3, h4⟩ => ⟨fun k => ?_, hk.2 r h1⟩⟩
            subst h2 h3 h4
            rw [lkO_cons, lkO_cons]
            by_cases e1 : b = k
            · subst e1; rw [if_pos rfl, hmb]
            · rw [if_neg e1]
              by_cases e2 : c = k
              · subst e2; rw [if_pos rfl, hmc]
              · rw [if_neg e2]
          · exact hk.elim
        · exact hk.elim
      · exact hk.elim
    · exact hk.elim
  refine (h0.2 off B M I0 G w0 E m w us xs _ h hxs hx hk1).mono ?_
  rintro e w' ⟨x, r, m', E', rfl, q1, q2, q3, q4⟩
  have e0 : lkO m' = lkO m := funext q3
  rw [e0] at q2
  exact ⟨x, r, m, E', rfl, q1.congr (fun _ => rfl) (fun k => (q3 k).symm), q2, q4⟩
/-- A function that only reads a lent book: a contract. -/
theorem book_read {P : Program} [Laid P] {f : Nat} {T0 : Tr} (hT : InK P f T0) {t t2 : Nat} {n : Int} {la vs : List SV} {r : SV} (hr : closed r = true) (hv : closedL vs = true)
    (H : ∀ ck, T0 1000000 (.ptr 9990 0 :: vs) [(9990, .box t [.mpp 9991, .int .i64 n]), (9991, .mp t2 .str (.int .i64) la ck)] (fun r' _ => r' = r)) : FnOK P f (.lp t [.own t2 [.str, .int .i64, .int .i64] la, .int .i64 n] :: vs) r := by
  intro I w xs hld hI hs hx
  have hx0 := hx 0
  rcases hx0 with hx0 | ⟨t', cs, b, ys, e1, e2, e3, e4, e5, e6, e7⟩
  · have hx0 : Conc I w (xs.getD 0 undef) (.lp t [.own t2 [.str, .int .i64, .int .i64] la, .int .i64 n]) := hx0
    generalize xs.getD 0 undef = z at hx0
    cases hx0
  have e1 : SV.lp t [.own t2 [.str, .int .i64, .int .i64] la, .int .i64 n] = .lp t' cs := e1
  cases e1
  have y0 := e5 0
  have y1 := e5 1
  rcases y0 with y0 | ⟨ty, kk, vk, l, cb, ck, m1, m2, m3, m4, m5⟩
  · have y0 : Conc I w (ys.getD 0 undef) (.own t2 [.str, .int .i64, .int .i64] la) := y0
    generalize ys.getD 0 undef = z at y0
    cases y0
  have m1 : SV.own t2 [.str, .int .i64, .int .i64] la = .own ty [kk, vk, .int .i64] l := m1
  cases m1
  rcases y1 with y1 | ⟨_, _, _, _, _, _, h, _⟩
  rotate_left
  · have h : SV.int .i64 n = .own _ _ _ := h
    cases h
  have y1 : Conc I w (ys.getD 1 undef) (.int .i64 n) := y1
  have hne : b ≠ cb := fun e => by
    subst e
    obtain ⟨es, hh, _⟩ := m3
    rw [e3] at hh; cases hh
  let m : List (Nat × Chunk) := [(9990, .box t [.mpp 9991, .int .i64 n]), (9991, .mp t2 .str (.int .i64) la ck)]
  let E : Env := ⟨fun c => if c = 9990 then some b else if c = 9991 then some cb else none, fun _ => undef, I, fun _ => undef⟩
  have hm : ∀ c, lkO m c = if 9990 = c then some (.box t [.mpp 9991, .int .i64 n]) else if 9991 = c then some (.mp t2 .str (.int .i64) la ck) else none := fun c => by
    show lkO ((9990, _) :: (9991, _) :: []) c = _
    rw [lkO_cons, lkO_cons]; rfl
  have hl : ∀ c d, E.loc c = some d → (c = 9990 ∧ d = b) ∨ (c = 9991 ∧ d = cb) := fun c d hd => by
    simp only [E] at hd
    split at hd
    · rename_i hc; cases hd; exact .inl ⟨hc, rfl⟩
    · split at hd
      · rename_i hc; cases hd; exact .inr ⟨hc, rfl⟩
      · cases hd
  have hrel : Rel P 0 w.heap.size (fun _ => False) I (fun _ => undef) w E ⟨[], m⟩ ⟨#[], []⟩ w := by
    refine ⟨rfl, rfl, Fr.refl _ _ _, Nat.le_refl _, fun b hb => hb, fun b hb => ⟨hI b hb, .inl hb⟩, fun c d hd => ?_, fun c c' d hd hd' => ?_, fun t => .conc _ _ (.any _), fun c => ?_, fun w' hf => Laid.mono hf.size (fun k hk => hf.block k hk (fun h => h)) hld, rfl⟩
    · rcases hl c d hd with ⟨rfl, rfl⟩ | ⟨rfl, rfl⟩
      · exact ⟨e6, e7, .inr (.inr ⟨rfl, rfl⟩)⟩
      · exact ⟨m4, m5, .inr (.inr ⟨rfl, rfl⟩)⟩
    · rcases hl c d hd with ⟨h1, h2⟩ | ⟨h1, h2⟩ <;> rcases hl c' d hd' with ⟨h3, h4⟩ | ⟨h3, h4⟩
      · rw [h1, h3]
      · exact absurd (h2.symm.trans h4) hne
      · exact absurd (h4.symm.trans h2) hne
      · rw [h1, h3]
    · show ChR E (lkO m) w c (lkO m c)
      rw [hm c]
      by_cases h1 : 9990 = c
      · subst h1
        rw [if_pos rfl]
        refine ⟨b, ys, by simp [E], e3, e4, fun i => ?_⟩
        match i with
        | 0 =>
          show CV E (lkO m) w (ys.getD 0 undef) (.mpp 9991)
          rw [m2]
          exact .mpp 9991 cb rfl (by simp [E])
        | 1 => exact .conc _ _ y1
        | i + 2 => exact .conc _ _ (by simpa using Conc.any _)
      · rw [if_neg h1]
        by_cases h2 : 9991 = c
        · subst h2
          rw [if_pos rfl]
          exact ⟨cb, by simp [E], m3⟩
        · rw [if_neg h2]; trivial
  have hcl : ∀ (vs : List SV), closedL vs = true → ∀ i, closed (vs.getD i .any) = true := fun vs => by
    induction vs with
    | nil => intro _ i; simp [closed]
    | cons v r ih =>
      intro h i
      simp only [closedL, Bool.and_eq_true] at h
      cases i with
      | zero => simpa using h.1
      | succ i => simpa using ih h.2 i
  refine ((hT.ok 1000000) w.heap.size (fun _ => False) I (fun _ => undef) w E m w (.ptr 9990 0 :: vs) xs _ hrel hs (fun i => ?_) (H ck)).mono ?_
  · cases i with
    | zero =>
      show CV E (lkO m) w (xs.getD 0 undef) (.ptr 9990 0)
      rw [e2]
      exact .ptr 9990 0 b t _ rfl (by simp [E])
    | succ i =>
      have := hx (i + 1)
      exact .conc _ _ (ArgOK.conc (v := vs.getD i .any) (by simpa using this) (hcl vs hv i))
  · rintro e w' ⟨x, r', m', E', rfl, q1, q2, q3⟩
    subst q3
    exact ⟨x, E'.I, rfl, q1.fr, q1.i0, (fun b hb => ⟨(q1.inew b hb).1, (q1.inew b hb).2.imp id fun q => q.elim id False.elim⟩), .inl (closed_conc _ _ hr q2)⟩
end
end Go.Rx

