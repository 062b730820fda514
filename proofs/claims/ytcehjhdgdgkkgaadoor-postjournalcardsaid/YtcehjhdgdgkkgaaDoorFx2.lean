/- The framework, an effect's contract: a box that holds a map, a number and a slice of the caller's own is lent to a function, which may write the first two. -/
import Derived.Test.YtcehjhdgdgkkgaaDoorFx
namespace Go.Rx
set_option linter.unusedSectionVars false
set_option linter.unusedVariables false
set_option linter.unusedSimpArgs false
open Go.RowKit

/-- The memory in which the function is gone through. -/
def bk3M (e : Nat) (ks : List CK) (t t2 : Nat) (n : Int) (la : List SV) (ck : Nat) (l : List SV) : List (Nat × Chunk) :=
  [(9980, .box t [.mpp 9981, .int .i64 n, .osl 9984 0]), (9981, .mp t2 .str (.int .i64) la ck), (9982, .gh (.ptr 9980 0)), (9983, .gh (.mpp 9981)), (9984, .row 0 e ks l)]
/-- What must hold at its end. -/
def bk3End (e : Nat) (ks : List CK) (t t2 : Nat) (l : List SV) (Q : SV → Int → List SV → Nat → Prop) (r : SV) (m : List (Nat × Chunk)) : Prop :=
  match lkO m 9980, lkO m 9981, lkO m 9984 with
  | some (.box t' [.mpp c, .int .i64 n, .osl d v]), some (.mp t2' .str (.int .i64) la ck), some (.row v' e' ks' l') =>
    match (Nat.beq c 9981 && (Nat.beq d 9984 && (Nat.beq v v' && (Nat.beq e' e && cksEq ks' ks)))) && (Nat.beq t t' && (Nat.beq t2 t2' && (isG0 (lkO m 9982) && (isG1 (lkO m 9983) && plainR r)))) with
    | true => l' = l ∧ Q r n la ck
    | false => False
  | _, _, _ => False
/-- The contract, as what is asked where it is called. -/
def bookT3 (e : Nat) (ks : List CK) {ι : Type} (rf : ι → SV) (pre : Nat → Nat → Int → List SV → Nat → List SV → Prop) (post : Int → List SV → Nat → List SV → ι → Int → List SV → Nat → Prop) : Tr := fun _ us m K => match us with
  | .ptr b 0 :: vs => match lkO m b with
    | some (.box t [.mpp c, .int .i64 n, .osl d ver]) => match lkO m c, lkO m d with
      | some (.mp t2 .str (.int .i64) la ck), some (.row v e' ks' l) => match (Nat.beq v ver && (Nat.beq e' e && cksEq ks' ks)) && (closedL vs && (!(roK b) && (!(roK c) && (!(roK d) && !(Nat.beq b c))))) with
        | true => pre t t2 n la ck vs ∧ ∀ r n' la' ck', post n la ck vs r n' la' ck' → K (rf r) ((b, .box t [.mpp c, .int .i64 n', .osl d (v + 1)]) :: (c, .mp t2 .str (.int .i64) la' ck') :: (d, .row (v + 1) e' ks' l) :: m)
        | false => False
      | _, _ => False
    | _ => False
  | _ => False

section
variable {P : Program} [Laid P] {B : Nat} {M I0 : Nat → Prop} {G : Nat → Value} {w0 : World} {E : Env} {w : World}

mutual
theorem plainR_closed : ∀ (v : SV), plainR v = true → closed v = true
  | .any, _ => rfl
  | .int _ _, _ => rfl
  | .bool _, _ => rfl
  | .tt, _ => rfl
  | .ff, _ => rfl
  | .str _, _ => rfl
  | .flt _, _ => rfl
  | .cpx _ _, _ => rfl
  | .nilsl, _ => rfl
  | .nilp, _ => rfl
  | .tup cs, h => by simp only [plainR] at h; simp only [closed]; exact plainRs_closed cs h
  | .agg cs, h => by simp only [plainR] at h; simp only [closed]; exact plainRs_closed cs h
  | .und, h => by cases h
  | .ptr _ _, h => by cases h
  | .ptx _ _, h => by cases h
  | .rptr _ _ _ _ _, h => by cases h
  | .osl _ _, h => by cases h
  | .sl _ _, h => by cases h
  | .ep _ _ _ _, h => by cases h
  | .oep _ _ _ _ _, h => by cases h
  | .fn _ _, h => by cases h
  | .nb _, h => by cases h
  | .fsl _ _, h => by cases h
  | .lp _ _, h => by cases h
  | .own _ _ _, h => by cases h
  | .mpp _, h => by cases h
  | .itp _, h => by cases h
  | .otl _ _ _ _, h => by cases h
theorem plainRs_closed : ∀ (l : List SV), plainRs l = true → closedL l = true
  | [], _ => rfl
  | v :: r, h => by
    simp only [plainRs, Bool.and_eq_true] at h
    simp only [closedL, Bool.and_eq_true]
    exact ⟨plainR_closed v h.1, plainRs_closed r h.2⟩
end
theorem RowR.move {E E' : Env} {w : World} {c d e : Nat} {ks : List CK} {l : List SV} (h : RowR E w d e ks l) (hI : ∀ b, E.I b → E'.I b) (hl : E'.loc c = E.loc d) (hv : E'.cv c = E.cv d) : RowR E' w c e ks l := by
  obtain ⟨h1, ⟨h2, xs, ho, h4⟩ | ⟨h2, h3, ad, h4⟩⟩ := h
  · exact ⟨h1, .inl ⟨by rw [hl, hv]; exact h2, xs, by rw [hv]; exact ho, fun i j hi hj => (h4 i j hi hj).mono hI (fun _ _ => rfl)⟩⟩
  · exact ⟨h1, .inr ⟨h2, by rw [hl]; exact h3, ad, by rw [hv]; exact h4⟩⟩

/-- The function, gone through in a memory of these alone. -/
theorem book3_core {f : Nat} {T0 : Tr} (hT : InK P f T0) {e d t t2 : Nat} {ks : List CK} {n : Int} {la l : List SV} {ck : Nat} {vs : List SV} {Q : SV → Int → List SV → Nat → Prop}
    (H : T0 1000000 (.ptr 9980 0 :: vs) (bk3M e ks t t2 n la ck l) (bk3End e ks t t2 l Q)) {xs : Array Value} (hxs : xs.size = (SV.ptr 9980 0 :: vs).length) {bb cb : Nat} {ys : Array Value}
    (hx0 : xs.getD 0 undef = .pointer (some ⟨bb, 0, none⟩)) (hxv : ∀ i, Conc E.I w (xs.getD (i + 1) undef) (vs.getD i .any)) (hne : bb ≠ cb) (hbs : bb < w.heap.size) (hcs : cb < w.heap.size)
    (hrb : ∀ b, E.loc d = some b → b < w.heap.size ∧ b ≠ bb ∧ b ≠ cb ∧ ¬ E.I b) (hrow : RowR E w d e ks l)
    (hI : ∀ b, E.I b → b < w.heap.size ∧ b ≠ bb ∧ b ≠ cb) (hbox : w.heap[bb]? = some (.cells ys t (0, 0))) (hys : ys.size = 3) (hy0 : ys.getD 0 undef = .map (some cb)) (hy1 : ys.getD 1 undef = .int .i64 n) (hy2 : ys.getD 2 undef = E.cv d)
    (hmap : MapR E.I w cb .str (.int .i64) la ck) (hld : ∀ w', Fr w.heap.size (fun k => k = bb ∨ k = cb ∨ E.loc d = some k) w w' → Laid.ok P w') :
    Calls P f xs w fun ed w' => ∃ (x : Value) (r : SV) (n' : Int) (la' : List SV) (ck' : Nat) (E2 : Env) (zs : Array Value), ed = .returned x ∧ Q r n' la' ck' ∧ plainR r = true ∧ Conc E2.I w' x r ∧ (∀ b, E.I b → E2.I b) ∧
      (∀ b, E2.I b → b < w'.heap.size ∧ (E.I b ∨ w.heap.size ≤ b ∨ E.loc d = some b) ∧ b ≠ bb ∧ b ≠ cb) ∧ Fr w.heap.size (fun k => k = bb ∨ k = cb ∨ E.loc d = some k) w w' ∧ w'.heap[bb]? = some (.cells zs t (0, 0)) ∧ zs.size = 3 ∧ zs.getD 0 undef = .map (some cb) ∧ zs.getD 1 undef = .int .i64 n' ∧ zs.getD 2 undef = E2.cv 9984 ∧
      MapR E2.I w' cb .str (.int .i64) la' ck' ∧ RowR E2 w' 9984 e ks l ∧ ∀ b, E2.loc 9984 = some b → b < w'.heap.size ∧ ¬ E2.I b ∧ (w.heap.size ≤ b ∨ E.loc d = some b) ∧ b ≠ bb ∧ b ≠ cb := by
  let E0 : Env := ⟨fun k => if k = 9980 then some bb else if k = 9981 then some cb else if k = 9984 then E.loc d else none, fun _ => E.cv d, E.I, fun k => if k = 9982 then .pointer (some ⟨bb, 0, none⟩) else .map (some cb)⟩
  have hl0 : lkO (bk3M e ks t t2 n la ck l) 9980 = some (.box t [.mpp 9981, .int .i64 n, .osl 9984 0]) := rfl
  have hmpp : CV E0 (lkO (bk3M e ks t t2 n la ck l)) w (.map (some cb)) (.mpp 9981) := .mpp 9981 cb rfl (by simp [E0])
  have hptr : CV E0 (lkO (bk3M e ks t t2 n la ck l)) w (.pointer (some ⟨bb, 0, none⟩)) (.ptr 9980 0) := .ptr 9980 0 bb t _ hl0 (by simp [E0])
  have hosl : CV E0 (lkO (bk3M e ks t t2 n la ck l)) w (E.cv d) (.osl 9984 0) := .osl _ 9984 0 0 rfl (Nat.le_refl _) (fun _ => rfl)
  have hlc : ∀ c b, E0.loc c = some b → (c = 9980 ∧ b = bb) ∨ (c = 9981 ∧ b = cb) ∨ (c = 9984 ∧ E.loc d = some b) := fun c b hb => by
    simp only [E0] at hb
    split at hb
    · rename_i h; exact .inl ⟨h, (Option.some.inj hb).symm⟩
    · split at hb
      · rename_i h; exact .inr (.inl ⟨h, (Option.some.inj hb).symm⟩)
      · split at hb
        · rename_i h; exact .inr (.inr ⟨h, hb⟩)
        · cases hb
  have hrel : Rel P 0 w.heap.size (fun k => k = bb ∨ k = cb ∨ E.loc d = some k) E.I E0.gv w E0 ⟨[], bk3M e ks t t2 n la ck l⟩ ⟨#[], []⟩ w := by
    refine ⟨rfl, rfl, Fr.refl _ _ _, Nat.le_refl _, fun b hb => hb, fun b hb => ⟨(hI b hb).1, .inl hb⟩, fun c b hb => ?_, fun c c' b hb hb' => ?_, fun t => .conc _ _ (.any _), fun c => ?_, hld, rfl⟩
    · rcases hlc c b hb with ⟨_, rfl⟩ | ⟨_, rfl⟩ | ⟨_, h⟩
      · exact ⟨hbs, fun h => (hI _ h).2.1 rfl, .inr (.inl (.inl rfl))⟩
      · exact ⟨hcs, fun h => (hI _ h).2.2 rfl, .inr (.inl (.inr (.inl rfl)))⟩
      · exact ⟨(hrb b h).1, (hrb b h).2.2.2, .inr (.inl (.inr (.inr h)))⟩
    · rcases hlc c b hb with ⟨h1, q1⟩ | ⟨h1, q1⟩ | ⟨h1, q1⟩ <;> rcases hlc c' b hb' with ⟨h2, q2⟩ | ⟨h2, q2⟩ | ⟨h2, q2⟩
      · rw [h1, h2]
      · exact absurd (q1.symm.trans q2) hne
      · exact absurd q1 (hrb b q2).2.1
      · exact absurd (q2.symm.trans q1) hne
      · rw [h1, h2]
      · exact absurd q1 (hrb b q2).2.2.1
      · exact absurd q2 (hrb b q1).2.1
      · exact absurd q2 (hrb b q1).2.2.1
      · rw [h1, h2]
    · dsimp only [bk3M]
      rw [lkO_cons]
      by_cases h0 : 9980 = c
      · subst h0
        rw [if_pos rfl]
        refine ⟨bb, ys, by simp [E0], hbox, by rw [hys]; rfl, fun i => ?_⟩
        match i with
        | 0 => rw [hy0]; exact hmpp
        | 1 => rw [hy1]; exact .conc _ _ (.int _ _)
        | 2 => rw [hy2]; exact hosl
        | i + 3 => exact .conc _ _ (by simpa using Conc.any _)
      · rw [if_neg h0, lkO_cons]
        by_cases h1 : 9981 = c
        · subst h1
          rw [if_pos rfl]
          exact ⟨cb, by simp [E0], hmap⟩
        · rw [if_neg h1, lkO_cons]
          by_cases h2 : 9982 = c
          · subst h2
            rw [if_pos rfl]
            show CV E0 _ w (E0.gv 9982) _
            simp only [E0, if_true]; exact hptr
          · rw [if_neg h2, lkO_cons]
            by_cases h3 : 9983 = c
            · subst h3
              rw [if_pos rfl]
              show CV E0 _ w (E0.gv 9983) _
              simp only [E0]; exact hmpp
            · rw [if_neg h3, lkO_cons]
              by_cases h4 : 9984 = c
              · subst h4
                rw [if_pos rfl]
                exact hrow.move (fun _ h => h) (by simp [E0]) rfl
              · rw [if_neg h4]; trivial
  refine (hT.2 1000000 _ _ _ _ _ _ _ _ _ xs _ hrel hxs (fun i => ?_) H).mono ?_
  · match i with
    | 0 => rw [hx0]; exact hptr
    | i + 1 => simpa using (CV.conc (E := E0) (m := lkO (bk3M e ks t t2 n la ck l)) _ _ (hxv i))
  rintro ed w' ⟨x, r, m', E', rfl, h1, h2, h3⟩
  unfold bk3End at h3
  split at h3
  · rename_i t' c n' d' v t2' la' ck' v' e' ks' l' q0 q1 q2
    split at h3
    · rename_i hb
      simp only [Bool.and_eq_true] at hb
      obtain ⟨⟨b1, b2, b3, b4, b5⟩, b6, b7, b8, b9, b10⟩ := hb
      have b1 := Nat.eq_of_beq_eq_true b1
      have b2 := Nat.eq_of_beq_eq_true b2
      have b3 := Nat.eq_of_beq_eq_true b3
      have b4 := Nat.eq_of_beq_eq_true b4
      have b5 := cksEq_eq _ _ b5
      have b6 := Nat.eq_of_beq_eq_true b6
      have b7 := Nat.eq_of_beq_eq_true b7
      obtain ⟨rfl, h3⟩ := h3
      subst b1 b2 b3 b4 b5 b6 b7
      have g0 : E'.loc 9980 = some bb := by
        unfold isG0 at b8
        split at b8
        · rename_i c o hg
          simp only [Bool.and_eq_true] at b8
          have e1 := Nat.eq_of_beq_eq_true b8.1
          have e2 := Nat.eq_of_beq_eq_true b8.2
          subst e1 e2
          have := h1.ch 9982
          dsimp only at this
          rw [hg] at this
          have this : CV E' _ w' (E'.gv 9982) (.ptr 9980 0) := this
          rw [h1.gv] at this
          simp only [E0, if_true] at this
          obtain ⟨b', t', cs', e1, _, e3⟩ := this.inv_ptr
          cases e1; exact e3
        · cases b8
      have g1 : E'.loc 9981 = some cb := by
        unfold isG1 at b9
        split at b9
        · rename_i c hg
          have e1 := Nat.eq_of_beq_eq_true b9
          subst e1
          have := h1.ch 9983
          dsimp only at this
          rw [hg] at this
          have this : CV E' _ w' (E'.gv 9983) (.mpp 9981) := this
          rw [h1.gv] at this
          simp only [E0] at this
          obtain ⟨b', e1, _, e3⟩ := this.inv_mpp
          cases e1; exact e3
        · cases b9
      have c0 := h1.ch 9980
      dsimp only at c0
      rw [q0] at c0
      obtain ⟨b', zs, z1, z2, z3, z4⟩ := c0
      rw [g0] at z1
      cases z1
      have c1 := h1.ch 9981
      dsimp only at c1
      rw [q1] at c1
      obtain ⟨b', y1, y2⟩ := c1
      rw [g1] at y1
      cases y1
      have c2 := h1.ch 9984
      dsimp only at c2
      rw [q2] at c2
      have c2 : RowR E' w' 9984 _ _ _ := c2
      refine ⟨x, r, n', la', ck', E', zs, rfl, h3, b10, ?_, h1.i0, fun b hb => ⟨(h1.inew b hb).1, ?_, fun e => (h1.loc 9980 bb g0).2.1 (e ▸ hb), fun e => (h1.loc 9981 cb g1).2.1 (e ▸ hb)⟩, h1.fr, z2, by rw [z3]; rfl, ?_, ?_, ?_, y2, c2, fun b hb => ?_⟩
      · exact closed_conc _ _ (plainR_closed r b10) h2
      · rcases (h1.inew b hb).2 with q | q | q | q | q
        · exact .inl q
        · exact .inr (.inl q)
        · exact absurd (q ▸ hb) (h1.loc 9980 bb g0).2.1
        · exact absurd (q ▸ hb) (h1.loc 9981 cb g1).2.1
        · exact .inr (.inr q)
      · obtain ⟨b', e1, _, e3⟩ := (show CV E' _ w' (zs.getD 0 undef) (.mpp 9981) from z4 0).inv_mpp
        rw [g1] at e3
        cases e3; exact e1
      · exact (show CV E' _ w' (zs.getD 1 undef) (.int .i64 n') from z4 1).inv_int
      · obtain ⟨v2, e1, e2⟩ := (show CV E' (lkO m') w' (zs.getD 2 undef) (.osl 9984 v) from z4 2).inv_osl
        rw [q2] at e1
        exact e2 (by simpa [verOf] using e1)
      · obtain ⟨k1, k2, k3⟩ := h1.loc 9984 b hb
        have n1 : b ≠ bb := fun e => by subst e; exact absurd (h1.inj 9984 9980 b hb g0) (by decide)
        have n2 : b ≠ cb := fun e => by subst e; exact absurd (h1.inj 9984 9981 b hb g1) (by decide)
        refine ⟨k1, k2, ?_, n1, n2⟩
        rcases k3 with k3 | k3 | ⟨_, k3⟩
        · exact .inl k3
        · rcases k3 with k3 | k3 | k3
          · exact absurd k3 n1
          · exact absurd k3 n2
          · exact .inr k3
        · dsimp only at k3; rw [q2] at k3; simp [verOf] at k3
    · exact h3.elim
  · exact h3.elim

/-- .. in whatever memory. -/
theorem book3_in (e : Nat) (ks : List CK) {f : Nat} {T0 : Tr} (hT : InK P f T0) {ι : Type} (rf : ι → SV) {pre : Nat → Nat → Int → List SV → Nat → List SV → Prop} {post : Int → List SV → Nat → List SV → ι → Int → List SV → Nat → Prop}
    (H : ∀ t t2 n la ck l vs, pre t t2 n la ck vs → T0 1000000 (.ptr 9980 0 :: vs) (bk3M e ks t t2 n la ck l) (bk3End e ks t t2 l (fun r n' la' ck' => ∃ y, r = rf y ∧ post n la ck vs y n' la' ck'))) : InK P f (bookT3 e ks rf pre post) := by
  refine ⟨hT.1, fun off B M I0 G w0 E m w us xs K h hxs hx hk => ?_⟩
  unfold bookT3 at hk
  split at hk
  · rename_i b vs
    split at hk
    · rename_i t c n d ver hmb
      split at hk
      · rename_i t2 la ck v e' ks' l hmc hmd
        split at hk
        · rename_i hb
          simp only [Bool.and_eq_true, Bool.not_eq_true'] at hb
          obtain ⟨⟨hv, he, hks⟩, hcl, hrb, hrc, hrd, hbc⟩ := hb
          have hv := Nat.eq_of_beq_eq_true hv
          have he := Nat.eq_of_beq_eq_true he
          have hks := cksEq_eq _ _ hks
          subst hv he hks
          have hbc : b ≠ c := fun e => by subst e; rw [Nat.beq_refl] at hbc; cases hbc
          have hbd : b ≠ d := fun e => by subst e; rw [hmb] at hmd; cases hmd
          have hcd : c ≠ d := fun e => by subst e; rw [hmc] at hmd; cases hmd
          obtain ⟨hpre, hK⟩ := hk
          obtain ⟨bb, t', cs', e1, e2, e3⟩ := (show CV E (lkO m) w (xs.getD 0 undef) (.ptr b 0) from hx 0).inv_ptr
          have hbox := h.ch b
          rw [show lkO (St.mem ⟨[], m⟩) b = lkO m b from rfl, hmb] at hbox
          obtain ⟨bb', ys, z1, z2, z3, z4⟩ := hbox
          rw [e3] at z1
          cases z1
          obtain ⟨cb, y0, _, hlc⟩ := (show CV E (lkO m) w (ys.getD 0 undef) (.mpp c) from z4 0).inv_mpp
          have y1 := (show CV E (lkO m) w (ys.getD 1 undef) (.int .i64 n) from z4 1).inv_int
          have y2 : ys.getD 2 undef = E.cv d := by
            obtain ⟨v2, p1, p2⟩ := (show CV E (lkO m) w (ys.getD 2 undef) (.osl d v) from z4 2).inv_osl
            rw [hmd] at p1
            exact p2 (by simpa [verOf] using p1)
          have hmap := h.ch c
          rw [show lkO (St.mem ⟨[], m⟩) c = lkO m c from rfl, hmc] at hmap
          obtain ⟨cb', l1, hmp⟩ := hmap
          rw [hlc] at l1
          cases l1
          have hrw := h.ch d
          rw [show lkO (St.mem ⟨[], m⟩) d = lkO m d from rfl, hmd] at hrw
          have hrw : RowR E w d _ _ l := hrw
          have hne : bb ≠ cb := fun e => by subst e; exact hbc (h.inj b c bb e3 hlc)
          have hbl := h.loc b bb e3
          have hclc := h.loc c cb hlc
          have hdl : ∀ k, E.loc d = some k → k < w.heap.size ∧ k ≠ bb ∧ k ≠ cb ∧ ¬ E.I k := fun k hk => ⟨(h.loc d k hk).1, fun e => by subst e; exact hbd (h.inj b d k e3 hk), fun e => by subst e; exact hcd (h.inj c d k hlc hk), (h.loc d k hk).2.1⟩
          have roM : ∀ k, k < B → ¬ M k → k ≠ bb ∧ k ≠ cb ∧ E.loc d ≠ some k := by
            intro k hk hM
            refine ⟨fun e => ?_, fun e => ?_, fun e => ?_⟩
            · subst e
              rcases hbl.2.2 with q | q | ⟨q, _⟩
              · omega
              · exact hM q
              · rw [hrb] at q; cases q
            · subst e
              rcases hclc.2.2 with q | q | ⟨q, _⟩
              · omega
              · exact hM q
              · rw [hrc] at q; cases q
            · rcases (h.loc d k e).2.2 with q | q | ⟨q, _⟩
              · omega
              · exact hM q
              · rw [hrd] at q; cases q
          have tofr : ∀ w', Fr w.heap.size (fun k => k = bb ∨ k = cb ∨ E.loc d = some k) w w' → Fr B M w w' := fun w' hf => ⟨hf.os, hf.tape, hf.output, hf.size, fun k hk hM => hf.block k (Nat.lt_of_lt_of_le hk h.base) (fun q => by
            obtain ⟨r1, r2, r3⟩ := roM k hk hM
            rcases q with q | q | q
            · exact r1 q
            · exact r2 q
            · exact r3 q)⟩
          have hcore := book3_core (w := w) (E := E) (d := d) hT (H t t2 n la ck l _ hpre) (xs := xs) hxs e1 (fun i => closedL_conc vs hcl i _ (by simpa using hx (i + 1))) hne hbl.1 hclc.1 hdl hrw
            (fun k hk => ⟨(h.inew k hk).1, fun e => hbl.2.1 (e ▸ hk), fun e => hclc.2.1 (e ▸ hk)⟩) z2 (by rw [z3]; rfl) y0 y1 y2 hmp (fun w' hf => h.ld w' (h.fr.trans (tofr w' hf)))
          refine hcore.mono ?_
          rintro ed w' ⟨x, r, n', la', ck', E3, zs, rfl, ⟨yy, rfl, k1⟩, k2, k3, k4, k5, k6, k7, k8, k9, k10, k11, k12, k13, k14⟩
          have hlk : ∀ k, lkO ((b, Chunk.box t [.mpp c, .int .i64 n', .osl d (v + 1)]) :: (c, .mp t2 .str (.int .i64) la' ck') :: (d, .row (v + 1) e' ks' l) :: m) k = if b = k then some (.box t [.mpp c, .int .i64 n', .osl d (v + 1)]) else if c = k then some (.mp t2 .str (.int .i64) la' ck') else if d = k then some (.row (v + 1) e' ks' l) else lkO m k := fun k => by rw [lkO_cons, lkO_cons, lkO_cons]
          let E2 : Env := ⟨fun k => if k = d then E3.loc 9984 else E.loc k, fun k => if k = d then E3.cv 9984 else E.cv k, E3.I, E.gv⟩
          have hw : ∀ k, E.I k → w'.heap[k]? = w.heap[k]? := fun k hk => k6.block k (h.inew k hk).1 (fun q => by
            rcases q with q | q | q
            · exact hbl.2.1 (q ▸ hk)
            · exact hclc.2.1 (q ▸ hk)
            · exact (h.loc d k q).2.1 hk)
          have hmm : ∀ x u, CV E (lkO m) w x u → CV E2 (lkO ((b, Chunk.box t [.mpp c, .int .i64 n', .osl d (v + 1)]) :: (c, .mp t2 .str (.int .i64) la' ck') :: (d, .row (v + 1) e' ks' l) :: m)) w' x u := fun x u hx => by
            refine CV.mono (E := E) (m := lkO m) (w := w) k4 hw (fun k t0 cs0 b0 u1 u2 => ?_) (fun k b0 u1 u2 => ?_) (fun k v0 u1 => ?_) hx
            · have hkd : k ≠ d := fun e => by subst e; rw [hmd] at u1; cases u1
              refine ⟨?_, by simp only [E2]; rw [if_neg hkd]; exact u2⟩
              rw [hlk]
              by_cases e4 : b = k
              · rw [if_pos e4]; exact ⟨_, _, rfl⟩
              · rw [if_neg e4]
                by_cases e5 : c = k
                · subst e5; rw [hmc] at u1; cases u1
                · rw [if_neg e5, if_neg (Ne.symm hkd)]; exact ⟨t0, cs0, u1⟩
            · have hkd : k ≠ d := fun e => by subst e; rw [hmd] at u1; rcases u1 with u1 | u1 <;> cases u1
              have u2' : E2.loc k = some b0 := by simp only [E2]; rw [if_neg hkd]; exact u2
              rw [hlk]
              by_cases e4 : b = k
              · subst e4; rw [hmb] at u1; rcases u1 with u1 | u1 <;> cases u1
              · rw [if_neg e4]
                by_cases e5 : c = k
                · subst e5; rw [if_pos rfl, hmc]; exact ⟨fun _ => rfl, fun q => (by cases q), u2'⟩
                · rw [if_neg e5, if_neg (Ne.symm hkd)]; exact ⟨id, id, u2'⟩
            · have e4 : ¬ b = k := fun e => by subst e; rw [hmb] at u1; simp [verOf] at u1
              have e5 : ¬ c = k := fun e => by subst e; rw [hmc] at u1; simp [verOf] at u1
              by_cases e6 : d = k
              · subst e6
                rw [hmd] at u1
                have hv0 : v = v0 := by simpa [verOf] using u1
                refine ⟨v + 1, by rw [hlk, if_neg e4, if_neg e5, if_pos rfl]; rfl, by omega, fun hq => by omega⟩
              · refine ⟨v0, by rw [hlk, if_neg e4, if_neg e5, if_neg e6]; exact u1, Nat.le_refl _, fun _ => ⟨?_, fun b0 hb0 => ?_⟩⟩
                · simp only [E2]; rw [if_neg (Ne.symm e6)]
                · simp only [E2] at hb0; rw [if_neg (Ne.symm e6)] at hb0; exact hb0
          refine ⟨x, rf yy, _, E2, rfl, ⟨rfl, rfl, h.fr.trans (tofr w' k6), by have := h.base; have := k6.size; omega, fun k hk => k4 k (h.i0 k hk), fun k hk => ?_, fun k kb hk => ?_, fun k k' kb hk hk' => ?_, fun t => .conc _ _ (.any _), fun k => ?_, h.ld, h.gv⟩, .conc _ _ k3, hK yy n' la' ck' k1⟩
          · obtain ⟨u1, u2, _⟩ := k5 k hk
            refine ⟨u1, ?_⟩
            rcases u2 with u2 | u2 | u2
            · exact (h.inew k u2).2
            · exact .inr (.inl (Nat.le_trans h.base u2))
            · rcases (h.loc d k u2).2.2 with q | q | ⟨q, _⟩
              · exact .inr (.inl q)
              · exact .inr (.inr q)
              · rw [hrd] at q; cases q
          · simp only [E2] at hk
            by_cases e6 : k = d
            · rw [if_pos e6] at hk
              obtain ⟨u1, u2, u3, _⟩ := k14 kb hk
              refine ⟨u1, u2, ?_⟩
              rcases u3 with u3 | u3
              · exact .inl (Nat.le_trans h.base u3)
              · rcases (h.loc d kb u3).2.2 with q | q | ⟨q, _⟩
                · exact .inl q
                · exact .inr (.inl q)
                · rw [hrd] at q; cases q
            · rw [if_neg e6] at hk
              obtain ⟨u1, u2, u3⟩ := h.loc k kb hk
              refine ⟨Nat.lt_of_lt_of_le u1 k6.size, fun q => ?_, ?_⟩
              · rcases (k5 kb q).2.1 with q | q | q
                · exact u2 q
                · omega
                · exact e6 (h.inj k d kb hk q)
              · refine u3.imp id fun q0 => q0.imp id fun q => ⟨q.1, ?_⟩
                dsimp only
                rw [hlk]
                by_cases e4 : b = k
                · rw [if_pos e4]; rfl
                · rw [if_neg e4]
                  by_cases e5 : c = k
                  · rw [if_pos e5]; rfl
                  · rw [if_neg e5, if_neg (Ne.symm e6)]; exact q.2
          · simp only [E2] at hk hk'
            by_cases e6 : k = d <;> by_cases e7 : k' = d
            · rw [e6, e7]
            · rw [if_pos e6] at hk
              rw [if_neg e7] at hk'
              obtain ⟨_, _, u3, _⟩ := k14 kb hk
              rcases u3 with u3 | u3
              · have := (h.loc k' kb hk').1; omega
              · exact absurd (h.inj k' d kb hk' u3) e7
            · rw [if_neg e6] at hk
              rw [if_pos e7] at hk'
              obtain ⟨_, _, u3, _⟩ := k14 kb hk'
              rcases u3 with u3 | u3
              · have := (h.loc k kb hk).1; omega
              · exact absurd (h.inj k d kb hk u3) e6
            · rw [if_neg e6] at hk
              rw [if_neg e7] at hk'
              exact h.inj k k' kb hk hk'
          · dsimp only
            rw [hlk]
            by_cases e4 : b = k
            · subst e4
              rw [if_pos rfl]
              refine ⟨bb, zs, by simp only [E2]; rw [if_neg hbd]; exact e3, k7, by rw [k8]; rfl, fun i => ?_⟩
              match i with
              | 0 => rw [k9]; exact .mpp c cb (by rw [hlk, if_neg hbc, if_pos rfl]; rfl) (by simp only [E2]; rw [if_neg hcd]; exact hlc)
              | 1 => rw [k10]; exact .conc _ _ (.int _ _)
              | 2 => rw [k11]; exact .osl _ d (v + 1) (v + 1) (by rw [hlk, if_neg hbd, if_neg hcd, if_pos rfl]; rfl) (Nat.le_refl _) (fun _ => by simp [E2])
              | i + 3 => exact .conc _ _ (by simpa using Conc.any _)
            · rw [if_neg e4]
              by_cases e5 : c = k
              · subst e5
                rw [if_pos rfl]
                exact ⟨cb, by simp only [E2]; rw [if_neg hcd]; exact hlc, k12⟩
              · rw [if_neg e5]
                by_cases e6 : d = k
                · subst e6
                  rw [if_pos rfl]
                  exact k13.move (fun _ h => h) (by simp [E2]) (by simp [E2])
                · rw [if_neg e6]
                  refine ChR.mono (E := E) (m := lkO m) (w := w) k4 hw hmm (by simp only [E2]; rw [if_neg (Ne.symm e6)]) (by simp only [E2]; rw [if_neg (Ne.symm e6)]) (fun kb hkb => k6.block kb (h.loc k kb hkb).1 (fun q => ?_)) (h.ch k)
                  rcases q with q | q | q
                  · subst q; exact e4 (h.inj b k _ e3 hkb)
                  · subst q; exact e5 (h.inj c k _ hlc hkb)
                  · exact e6 (h.inj d k _ q hkb)
        · exact hk.elim
      · exact hk.elim
    · exact hk.elim
  · exact hk.elim
end
end Go.Rx

