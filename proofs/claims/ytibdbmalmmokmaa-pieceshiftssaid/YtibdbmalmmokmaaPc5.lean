/- Functions of straight pieces: the plain law of sums, of the lesser, of joined pieces. -/
import Derived.Test.YtibdbmalmmokmaaPc3
namespace Go.Rx
open Go.Proofs
set_option linter.unusedSimpArgs false
set_option linter.unusedVariables false

/-- Pieces from 0 on, rising. -/
def frame (L : List Ln) : Prop := 1 ≤ L.length ∧ (lnA L 0).1 = 0 ∧ risesT L ∧ ∀ i, i < L.length → (lnA L i).1 ≤ 10000000000
/-- Pieces that have the values of a function. -/
def Rep (L : List Ln) (φ : Int → Int) : Prop := frame L ∧ ∀ x, 0 ≤ x → x ≤ 10000000000 → atN x L 0 = φ x

theorem frame_v {L : List Ln} (h : frame L) {x : Int} (h0 : 0 ≤ x) (o : Int) : atN x L o = vAt L x := atN_v h.2.2.1 o h.1 (by rw [h.2.1]; exact h0)
theorem std_frame {L : List Ln} (h : stdT L) : frame L := ⟨h.1, (h.2.2 0 h.1).2.1 rfl, stdT_rises h, fun i hi => (h.2.2 i hi).1.2⟩
theorem std_rep {L : List Ln} (h : stdT L) : Rep L (vAt L) := ⟨std_frame h, fun x h0 _ => frame_v (std_frame h) h0 0⟩
theorem rep_v {L : List Ln} {φ : Int → Int} (h : Rep L φ) {x : Int} (h0 : 0 ≤ x) (h1 : x ≤ 10000000000) : vAt L x = φ x := by rw [← frame_v h.1 h0 0]; exact h.2 x h0 h1
theorem frame_fnd {L : List Ln} (h : frame L) {x : Int} (hx : 0 ≤ x) : fndT L x < L.length ∧ (lnA L (fndT L x)).1 ≤ x ∧ (fndT L x + 1 < L.length → x < (lnA L (fndT L x + 1)).1) :=
  fnd_in h.2.2.1 h.1 (by rw [h.2.1]; exact hx)
theorem frame_from {L : List Ln} (h : frame L) {i : Nat} (hi : i < L.length) : 0 ≤ (lnA L i).1 ∧ (lnA L i).1 ≤ endT L i ∧ endT L i ≤ 10000000000 := by
  have a := h.2.2.2 i hi
  have b : 0 ≤ (lnA L i).1 := by
    rcases Nat.eq_zero_or_pos i with h1 | h1
    · subst h1; rw [h.2.1]; exact Int.le_refl _
    · have := rises_lt h.2.2.1 h1 hi
      have := h.2.1
      omega
  unfold endT
  split
  · rename_i h1
    have c := h.2.2.1 i h1
    have d := h.2.2.2 _ h1
    omega
  · omega
theorem frame_at {L : List Ln} (h : frame L) {i : Nat} (hi : i < L.length) {x : Int} (h1 : (lnA L i).1 ≤ x) (h2 : x ≤ endT L i) (o : Int) : atN x L o = atT (lnA L i) x :=
  atN_at h.2.2.1 o hi h1 (fun h3 => by unfold endT at h2; rw [if_pos h3] at h2; omega)
/-- A function that stands, by its values. -/
theorem rep_std {L : List Ln} {φ : Int → Int} (h : Rep L φ) (hl : L.length ≤ 256) (hr : ∀ a, a ∈ L → -40000 ≤ a.2.2 ∧ a.2.2 ≤ 40000) (hb : ∀ x, 0 ≤ x → x ≤ 10000000000 → -4000000000000000 ≤ φ x ∧ φ x ≤ 4000000000000000) : stdT L := by
  refine ⟨h.1.1, hl, fun i hi => ?_⟩
  obtain ⟨f1, f2, f3⟩ := frame_from h.1 hi
  have v1 := h.2 (lnA L i).1 f1 (by omega)
  rw [frame_at h.1 hi (Int.le_refl _) f2, at_from] at v1
  have v2 := h.2 (endT L i) (by omega) f3
  rw [frame_at h.1 hi f2 (Int.le_refl _)] at v2
  have b1 := hb (lnA L i).1 f1 (by omega)
  have b2 := hb (endT L i) (by omega) f3
  rw [← v1] at b1
  rw [← v2] at b2
  refine ⟨⟨f1, by omega⟩, fun h0 => by subst h0; exact h.1.2.1, fun h0 => ?_, hr _ (lnA_mem hi), b1, b2⟩
  have := h.1.2.2.1 (i - 1) (by omega)
  rwa [show i - 1 + 1 = i by omega] at this
/-- What may be wrong with pieces from 0 on, rising. -/
theorem frame_err {L : List Ln} (h : frame L) : chkT L = 0 ∨ (256 < L.length ∧ chkT L = 2) ∨ (L.length ≤ 256 ∧ (∃ i, i < L.length ∧ ¬ (-40000 ≤ (lnA L i).2.2 ∧ (lnA L i).2.2 ≤ 40000)) ∧ chkT L = 50) ∨ (L.length ≤ 256 ∧ chkT L = 10) := by
  have e1 : ∀ i, i < L.length → fstE L i = 0 ∨ (fstE L i = 50 ∧ ¬ (-40000 ≤ (lnA L i).2.2 ∧ (lnA L i).2.2 ≤ 40000)) := fun i hi => by
    obtain ⟨f1, f2, f3⟩ := frame_from h hi
    have c1 : ¬ ((lnA L i).1 < 0 ∨ 10000000000 < (lnA L i).1 ∨ (i = 0 ∧ (lnA L i).1 ≠ 0)) := by
      rintro (c | c | ⟨c, d⟩)
      · omega
      · omega
      · subst c; exact d h.2.1
    have c2 : ¬ (0 < i ∧ (lnA L i).1 ≤ (lnA L (i - 1)).1) := by
      rintro ⟨c, d⟩
      have := h.2.2.1 (i - 1) (by omega)
      rw [show i - 1 + 1 = i by omega] at this
      omega
    unfold fstE
    rw [if_neg c1, if_neg c2]
    split
    · exact .inr ⟨rfl, by omega⟩
    · exact .inl rfl
  have e2 : ∀ n, n ≤ L.length → eA L n = 0 ∨ (eA L n = 50 ∧ ∃ i, i < L.length ∧ ¬ (-40000 ≤ (lnA L i).2.2 ∧ (lnA L i).2.2 ≤ 40000)) := by
    intro n
    induction n with
    | zero => exact fun _ => .inl rfl
    | succ n ih =>
      intro hn
      rw [eA]
      split
      · rcases e1 n (by omega) with h3 | h3
        · exact .inl h3
        · exact .inr ⟨h3.1, n, by omega, h3.2⟩
      · exact ih (by omega)
  have e3 : ∀ n, eB L n = 0 ∨ eB L n = 10 := by
    intro n
    induction n with
    | zero => exact .inl rfl
    | succ n ih =>
      rw [eB]
      split
      · unfold sndE; split <;> simp
      · exact ih
  unfold chkT
  have h1 := h.1
  by_cases hl : 256 < L.length
  · rw [if_pos (.inr hl)]; exact .inr (.inl ⟨hl, rfl⟩)
  · rw [if_neg (by omega)]
    rcases e2 L.length (Nat.le_refl _) with h2 | ⟨h2, h3⟩
    · rw [if_pos h2]
      rcases e3 L.length with h4 | h4
      · exact .inl h4
      · exact .inr (.inr (.inr ⟨by omega, h4⟩))
    · rw [h2, if_neg (by decide)]
      exact .inr (.inr (.inl ⟨by omega, h3, rfl⟩))

/-! ### Joined -/
theorem last_snoc (L : List Ln) (a : Ln) : lastL (L ++ [a]) = a := by
  unfold lastL
  rw [List.length_append, List.length_singleton, Nat.add_sub_cancel, lnA_app2 (Nat.le_refl _), Nat.sub_self]
  rfl
theorem snoc_last {L : List Ln} (h : 0 < L.length) : L = L.take (L.length - 1) ++ [lastL L] := by
  have := take_lnA (L := L) (i := L.length - 1) (by omega)
  rw [show L.length - 1 + 1 = L.length by omega, List.take_length] at this
  exact this
theorem at_on {a b : Ln} {x : Int} (h1 : a.2.2 = b.2.2) (h2 : atT a b.1 = b.2.1) : atT a x = atT b x := by
  unfold atT at *
  rw [← h2, ← h1, Int.add_assoc, ← Int.add_mul]
  congr 2
  omega
theorem jnN_mem {L : List Ln} : ∀ i, i ≤ L.length → ∀ a, a ∈ jnN L i → a ∈ L.take i
  | 0, _, a, h => by cases h
  | i + 1, hi, a, h => by
    have ih := jnN_mem (L := L) i (by omega) a
    rw [take_lnA (by omega)]
    rw [jnN] at h
    split at h
    · exact List.mem_append.2 (.inl (ih h))
    · rcases List.mem_append.1 h with h | h
      · exact List.mem_append.2 (.inl (ih h))
      · exact List.mem_append.2 (.inr h)
theorem rises_snoc {L : List Ln} {a : Ln} (h : risesT L) (h1 : 0 < L.length → (lastL L).1 < a.1) : risesT (L ++ [a]) := by
  intro i hi
  rw [List.length_append, List.length_singleton] at hi
  rcases Nat.lt_or_ge (i + 1) L.length with h2 | h2
  · rw [lnA_app1 (by omega), lnA_app1 h2]; exact h i h2
  · have e : i + 1 = L.length := by omega
    have := h1 (by omega)
    rw [lnA_app1 (by omega), lnA_app2 h2, show i + 1 - L.length = 0 by omega]
    unfold lastL at this
    rw [show L.length - 1 = i by omega] at this
    exact this
theorem take_from {L : List Ln} (h : risesT L) {i : Nat} (hi : i < L.length) {a : Ln} (ha : a ∈ L.take i) : a.1 < (lnA L i).1 := by
  obtain ⟨j, hj, rfl⟩ := mem_lnA ha
  rw [List.length_take] at hj
  have e : lnA (L.take i) j = lnA L j := by
    have h2 : j < i := by omega
    simp [lnA, List.getD_eq_getElem?_getD, List.getElem?_take, h2]
  rw [e]
  exact rises_lt h (by omega) hi
/-- Is a piece none that goes on as the one ahead does? -/
def apart (L : List Ln) : Prop := ∀ i, i + 1 < L.length → ¬ ((lnA L i).2.2 = (lnA L (i + 1)).2.2 ∧ atT (lnA L i) (lnA L (i + 1)).1 = (lnA L (i + 1)).2.1)
theorem jnN_all {L : List Ln} (h : risesT L) : ∀ i, i ≤ L.length → risesT (jnN L i) ∧ (∀ x, atN x (jnN L i) 0 = atN x (L.take i) 0) ∧ apart (jnN L i) ∧ (0 < i → 0 < (jnN L i).length ∧ lnA (jnN L i) 0 = lnA L 0)
  | 0, _ => ⟨fun i hi => by simp [jnN] at hi, fun x => by simp [jnN], fun i hi => by simp [jnN] at hi, fun h => absurd h (Nat.lt_irrefl _)⟩
  | i + 1, hi => by
    obtain ⟨r1, r2, r3, r4⟩ := jnN_all h i (by omega)
    have hlast : 0 < (jnN L i).length → (lastL (jnN L i)).1 < (lnA L i).1 := fun hl => take_from h (by omega) (jnN_mem i (by omega) _ (lnA_mem (L := jnN L i) (i := (jnN L i).length - 1) (by omega)))
    rw [jnN]
    split
    · rename_i hg
      simp only [goesOn, Bool.and_eq_true, decide_eq_true_eq] at hg
      obtain ⟨⟨g1, g2⟩, g3⟩ := hg
      refine ⟨r1, fun x => ?_, r3, fun _ => ?_⟩
      · rw [take_lnA (by omega), atN_app, ← r2 x]
        rw [atN, atN]
        split
        · rename_i hx
          have e := snoc_last g1
          have := hlast g1
          conv => lhs; rw [e]
          rw [atN_app, atN, atN, if_pos (by omega)]
          exact at_on g2 g3
        · rfl
      · rcases Nat.eq_zero_or_pos i with h0 | h0
        · subst h0; simp [jnN] at g1
        · exact r4 h0
    · rename_i hg
      simp only [goesOn, Bool.and_eq_true, decide_eq_true_eq] at hg
      refine ⟨rises_snoc r1 hlast, fun x => ?_, fun j hj => ?_, fun _ => ⟨by simp, ?_⟩⟩
      · rw [take_lnA (by omega), atN_app, atN_app, r2 x]
      · rw [List.length_append, List.length_singleton] at hj
        rcases Nat.lt_or_ge (j + 1) (jnN L i).length with h2 | h2
        · rw [lnA_app1 (by omega), lnA_app1 h2]; exact r3 j h2
        · have e1 : lnA (jnN L i ++ [lnA L i]) (j + 1) = lnA L i := by rw [lnA_app2 h2, show j + 1 - (jnN L i).length = 0 by omega]; rfl
          have e2 : lnA (jnN L i ++ [lnA L i]) j = lastL (jnN L i) := by rw [lnA_app1 (by omega)]; unfold lastL; rw [show (jnN L i).length - 1 = j by omega]
          rw [e1, e2]
          exact fun hc => hg ⟨⟨by omega, hc.1⟩, hc.2⟩
      · rcases Nat.eq_zero_or_pos i with h0 | h0
        · subst h0; rfl
        · rw [lnA_app1 (r4 h0).1]; exact (r4 h0).2
theorem jn_mem {L : List Ln} {a : Ln} (h : a ∈ jnT L) : a ∈ L := by
  have := jnN_mem L.length (Nat.le_refl _) a h
  rwa [List.take_length] at this
theorem jn_rep {L : List Ln} {φ : Int → Int} (h : Rep L φ) : Rep (jnT L) φ ∧ apart (jnT L) := by
  obtain ⟨r1, r2, r3, r4⟩ := jnN_all h.1.2.2.1 L.length (Nat.le_refl _)
  have h4 := r4 h.1.1
  refine ⟨⟨⟨h4.1, ?_, r1, fun i hi => ?_⟩, fun x h0 h1 => ?_⟩, r3⟩
  · show (lnA (jnN L L.length) 0).1 = 0
    rw [h4.2]; exact h.1.2.1
  · obtain ⟨k, hk, e⟩ := mem_lnA (jn_mem (lnA_mem hi))
    rw [← e]
    exact h.1.2.2.2 k hk
  · show atN x (jnN L L.length) 0 = φ x
    rw [r2, List.take_length]; exact h.2 x h0 h1

/-! ### Pieces, stretch by stretch -/
def catN (B : Nat → List Ln) : Nat → List Ln
  | 0 => []
  | i + 1 => catN B i ++ B i
/-- A stretch's pieces. -/
def blk (s e : Int) (φ : Int → Int) (B : List Ln) : Prop := (1 ≤ B.length ∧ (lnA B 0).1 = s ∧ risesT B ∧ ∀ a, a ∈ B → s ≤ a.1 ∧ a.1 ≤ e) ∧ ∀ x, s ≤ x → x ≤ e → ∀ o, atN x B o = φ x
theorem catN_rep {X : List Int} {φ : Int → Int} {B : Nat → List Ln} (hX : X.Pairwise (· < ·)) (h1 : 1 ≤ X.length) (h0 : iA X 0 = 0) (hin : ∀ x, x ∈ X → x ≤ 10000000000)
    (hB : ∀ i, i < X.length → blk (iA X i) (endZ X i) φ (B i)) : Rep (catN B X.length) φ := by
  have ez : ∀ i, i + 1 < X.length → endZ X i = iA X (i + 1) - 1 := fun i hi => by unfold endZ; rw [if_pos hi]
  have lt : ∀ i, i + 1 < X.length → iA X i < iA X (i + 1) := fun i hi => iA_lt hX (by omega) hi
  have inv : ∀ i, i < X.length → (0 < (catN B (i + 1)).length ∧ (lnA (catN B (i + 1)) 0).1 = 0 ∧ risesT (catN B (i + 1)) ∧ ∀ a, a ∈ catN B (i + 1) → a.1 ≤ endZ X i) ∧ ∀ x, 0 ≤ x → x ≤ endZ X i → atN x (catN B (i + 1)) 0 = φ x := by
    intro i
    induction i with
    | zero =>
      intro hi
      obtain ⟨⟨b1, b2, b3, b4⟩, b5⟩ := hB 0 hi
      have e : catN B 1 = B 0 := by simp [catN]
      rw [e]
      exact ⟨⟨b1, by rw [b2, h0], b3, fun a ha => (b4 a ha).2⟩, fun x hx hx2 => b5 x (by omega) hx2 0⟩
    | succ i ih =>
      intro hi
      obtain ⟨⟨c1, c2, c3, c4⟩, c5⟩ := ih (by omega)
      obtain ⟨⟨b1, b2, b3, b4⟩, b5⟩ := hB (i + 1) hi
      have e : catN B (i + 1 + 1) = catN B (i + 1) ++ B (i + 1) := rfl
      have z := ez i hi
      have l := lt i hi
      rw [e]
      have up : endZ X i ≤ endZ X (i + 1) := by
        have := b4 _ (lnA_mem b1)
        omega
      refine ⟨⟨by rw [List.length_append]; omega, by rw [lnA_app1 c1]; exact c2, fun j hj => ?_, fun a ha => ?_⟩, fun x hx hx2 => ?_⟩
      · rw [List.length_append] at hj
        rcases Nat.lt_or_ge (j + 1) (catN B (i + 1)).length with h2 | h2
        · rw [lnA_app1 (by omega), lnA_app1 h2]; exact c3 j h2
        · rcases Nat.lt_or_ge j (catN B (i + 1)).length with h3 | h3
          · rw [lnA_app1 h3, lnA_app2 h2, show j + 1 - (catN B (i + 1)).length = 0 by omega, b2]
            have := c4 _ (lnA_mem h3)
            omega
          · rw [lnA_app2 h3, lnA_app2 (by omega), show j + 1 - (catN B (i + 1)).length = (j - (catN B (i + 1)).length) + 1 by omega]
            exact b3 _ (by omega)
      · rcases List.mem_append.1 ha with ha | ha
        · have := c4 a ha; omega
        · exact (b4 a ha).2
      · rw [atN_app]
        rcases Int.lt_or_le x (iA X (i + 1)) with h2 | h2
        · rw [atN_far _ _ (fun a ha => by have := (b4 a ha).1; omega)]
          exact c5 x hx (by omega)
        · exact b5 x h2 hx2 _
  have last := inv (X.length - 1) (by omega)
  rw [show X.length - 1 + 1 = X.length by omega] at last
  have e : endZ X (X.length - 1) = 10000000000 := by unfold endZ; rw [if_neg (by omega)]
  rw [e] at last
  exact ⟨⟨last.1.1, last.1.2.1, last.1.2.2.1, fun i hi => last.1.2.2.2 _ (lnA_mem hi)⟩, last.2⟩

/-- Between two of all beginnings one piece goes on. -/
theorem fnd_stay {L : List Ln} {X : List Int} (hL : frame L) (hX : X.Pairwise (· < ·)) (hm : ∀ a, a ∈ L → a.1 ∈ X) {i : Nat} (hi : i < X.length) (h0 : 0 ≤ iA X i) {x : Int} (h1 : iA X i ≤ x) (h2 : x ≤ endZ X i) : vAt L x = atT (lnA L (fndT L (iA X i))) x := by
  obtain ⟨f1, f2, f3⟩ := frame_fnd hL h0
  have e : fndT L x = fndT L (iA X i) := by
    refine fnd_eq hL.2.2.1 (by rw [hL.2.1]; omega) f1 (by omega) (fun h3 => ?_)
    have g := f3 h3
    obtain ⟨j, hj, ej⟩ := mem_iA (hm _ (lnA_mem h3))
    rw [← ej] at g ⊢
    have hij : i < j := by
      rcases Nat.lt_or_ge i j with h4 | h4
      · exact h4
      · rcases Nat.lt_or_ge j i with h5 | h5
        · have := iA_lt hX h5 hi; omega
        · rw [show j = i by omega] at g; omega
    unfold endZ at h2
    rw [if_pos (by omega)] at h2
    rcases Nat.lt_or_ge (i + 1) j with h4 | h4
    · have := iA_lt hX h4 hj; omega
    · rw [show j = i + 1 by omega]; omega
  unfold vAt
  rw [e]

theorem at_move (a : Ln) (x y : Int) : atT a y = atT a x + (y - x) * a.2.2 := by
  unfold atT
  rw [Int.add_assoc, ← Int.add_mul]
  congr 2
  omega
theorem froms_mem1 {F G : List Ln} {a : Ln} (h : a ∈ F) : a.1 ∈ fromsT F G := from_mem.2 ⟨a, .inl h, rfl⟩
theorem froms_mem2 {F G : List Ln} {a : Ln} (h : a ∈ G) : a.1 ∈ fromsT F G := from_mem.2 ⟨a, .inr h, rfl⟩

/-- Two functions together. -/
theorem add_rep {L M : List Ln} (hL : stdT L) (hM : stdT M) (t : Int) : Rep (addT L M t) (fun x => vAt L x + t * vAt M x) := by
  have hs := froms_sorted L M
  have h0 := froms_0 hL hM
  have e : catN (fun i => [addP L M t (iA (fromsT L M) i)]) (fromsT L M).length = addT L M t := by
    have : ∀ n, n ≤ (fromsT L M).length → catN (fun i => [addP L M t (iA (fromsT L M) i)]) n = (addT L M t).take n := by
      intro n
      induction n with
      | zero => intro _; simp [catN]
      | succ n ih =>
        intro hn
        rw [take_lnA (by rw [addT_len]; omega), addT_at (by omega), catN, ih (by omega)]
    rw [this _ (Nat.le_refl _), List.take_of_length_le (by rw [addT_len]; omega)]
  rw [← e]
  refine catN_rep hs h0.1 h0.2 (fun x hx => (froms_in hL hM hx).2) (fun i hi => ?_)
  have hin := froms_in hL hM (iA_mem hi)
  have hz := endZ_in hL hM hi
  refine ⟨⟨Nat.le_refl _, rfl, fun j hj => by simp at hj, fun a ha => ?_⟩, fun x h1 h2 o => ?_⟩
  · rw [List.mem_singleton] at ha
    subst ha
    exact ⟨Int.le_refl _, hz.1⟩
  · rw [atN, atN, if_pos (show (addP L M t (iA (fromsT L M) i)).1 ≤ x from h1)]
    have e1 := fnd_stay (std_frame hL) hs (fun a ha => froms_mem1 ha) hi hin.1 h1 h2
    have e2 := fnd_stay (std_frame hM) hs (fun a ha => froms_mem2 ha) hi hin.1 h1 h2
    show atT (addP L M t (iA (fromsT L M) i)) x = vAt L x + t * vAt M x
    rw [e1, e2, at_move _ (iA (fromsT L M) i) x, at_move (lnA M _) (iA (fromsT L M) i) x]
    unfold addP atT vAt atT
    generalize (lnA L (fndT L (iA (fromsT L M) i))).2.2 = r
    generalize (lnA M (fndT M (iA (fromsT L M) i))).2.2 = s
    simp only [Int.mul_add, Int.add_mul, Int.sub_mul, Int.mul_left_comm t, Int.mul_sub]
    omega

/-! ### The lesser one -/
theorem les_cross {g c d : Int} (hc : 0 < c) (hg : 0 ≤ g) : (d ≤ g.tdiv c → d * c ≤ g) ∧ (g.tdiv c < d → g < d * c) := by
  rw [Int.tdiv_eq_ediv_of_nonneg hg]
  refine ⟨fun h => (Int.le_ediv_iff_mul_le hc).1 h, fun h => ?_⟩
  have := (Int.le_ediv_iff_mul_le (a := d) (b := g) hc)
  omega
theorem lesS_blk {a b : Ln} {x e : Int} (he : x ≤ e) (h : atT a x ≤ atT b x) (h2 : atT a x = atT b x → a.2.2 ≤ b.2.2) (φ : Int → Int) (hφ : ∀ y, x ≤ y → y ≤ e → φ y = min (atT a y) (atT b y)) : blk x e φ (lesS a b (atT a x) (atT b x) x e) := by
  have pa : ∀ y, atT (x, atT a x, a.2.2) y = atT a y := fun y => (at_move a x y).symm
  have pb : ∀ z y, atT (z, atT b z, b.2.2) y = atT b y := fun z y => (at_move b z y).symm
  have ma := fun y => at_move a x y
  have mb := fun y => at_move b x y
  have dif : ∀ y, (y - x) * (a.2.2 - b.2.2) = (y - x) * a.2.2 - (y - x) * b.2.2 := fun y => Int.mul_sub _ _ _
  unfold lesS crossB
  by_cases hc : a.2.2 - b.2.2 ≤ 0
  · rw [if_pos (by simp [hc])]
    refine ⟨⟨Nat.le_refl _, rfl, fun j hj => by simp at hj, fun c hc => ?_⟩, fun y h3 h4 o => ?_⟩
    · rw [List.mem_singleton] at hc; subst hc; exact ⟨Int.le_refl _, he⟩
    · rw [atN, atN, if_pos h3, pa, hφ y h3 h4, Int.min_eq_left]
      rw [ma y, mb y]
      have := Int.mul_nonneg (show 0 ≤ y - x by omega) (show 0 ≤ b.2.2 - a.2.2 by omega)
      rw [Int.mul_sub] at this
      omega
  · have hc : 0 < a.2.2 - b.2.2 := by omega
    by_cases hd : e ≤ x + (atT b x - atT a x).tdiv (a.2.2 - b.2.2)
    · rw [if_pos (by simp [hd])]
      refine ⟨⟨Nat.le_refl _, rfl, fun j hj => by simp at hj, fun c hc => ?_⟩, fun y h3 h4 o => ?_⟩
      · rw [List.mem_singleton] at hc; subst hc; exact ⟨Int.le_refl _, he⟩
      · rw [atN, atN, if_pos h3, pa, hφ y h3 h4, Int.min_eq_left]
        rw [ma y, mb y]
        have := (les_cross (d := y - x) hc (show 0 ≤ atT b x - atT a x by omega)).1 (by omega)
        rw [dif] at this
        omega
    · rw [if_neg (by simp; omega)]
      obtain ⟨z, hz⟩ : ∃ z, z = x + (atT b x - atT a x).tdiv (a.2.2 - b.2.2) + 1 := ⟨_, rfl⟩
      have hn : 0 ≤ (atT b x - atT a x).tdiv (a.2.2 - b.2.2) := Int.tdiv_nonneg (by omega) (by omega)
      rw [← hz]
      refine ⟨⟨by simp, rfl, fun j hj => ?_, fun c hc => ?_⟩, fun y h3 h4 o => ?_⟩
      · have : j = 0 := by simp at hj; omega
        subst this
        show x < z
        omega
      · rw [List.mem_cons, List.mem_singleton] at hc
        rcases hc with rfl | rfl
        · exact ⟨Int.le_refl _, he⟩
        · exact ⟨by show x ≤ z; omega, by show z ≤ e; omega⟩
      · rw [atN, atN, atN, if_pos h3]
        have key := les_cross (d := y - x) hc (show 0 ≤ atT b x - atT a x by omega)
        rw [dif] at key
        rcases Int.lt_or_le y z with h5 | h5
        · rw [if_neg (by show ¬ z ≤ y; omega), pa, hφ y h3 h4, Int.min_eq_left]
          have := key.1 (by omega)
          rw [ma y, mb y]; omega
        · rw [if_pos (by show z ≤ y; omega), pb, hφ y h3 h4, Int.min_eq_right]
          have := key.2 (by omega)
          rw [ma y, mb y]; omega
theorem lesT_blk {a b : Ln} {x e : Int} (he : x ≤ e) (φ : Int → Int) (hφ : ∀ y, x ≤ y → y ≤ e → φ y = min (atT a y) (atT b y)) : blk x e φ (lesT a b x e) := by
  unfold lesT
  split
  · rename_i h
    exact lesS_blk he (by omega) (by omega) φ (fun y h1 h2 => by rw [hφ y h1 h2, Int.min_comm])
  · rename_i h
    exact lesS_blk he (by omega) (by omega) φ hφ
theorem lstN_cat (L M : List Ln) (X : List Int) : ∀ n, lstN L M X n = catN (lesP L M X) n
  | 0 => rfl
  | n + 1 => by rw [lstN, catN, lstN_cat L M X n]
theorem lst_rep {L M : List Ln} (hL : stdT L) (hM : stdT M) : Rep (lstT L M) (fun x => min (vAt L x) (vAt M x)) := by
  have hs := froms_sorted L M
  have h0 := froms_0 hL hM
  unfold lstT
  rw [lstN_cat]
  refine catN_rep hs h0.1 h0.2 (fun x hx => (froms_in hL hM hx).2) (fun i hi => ?_)
  have hin := froms_in hL hM (iA_mem hi)
  have hz := endZ_in hL hM hi
  exact lesT_blk hz.1 _ (fun y h1 h2 => by
    rw [fnd_stay (std_frame hL) hs (fun a ha => froms_mem1 ha) hi hin.1 h1 h2, fnd_stay (std_frame hM) hs (fun a ha => froms_mem2 ha) hi hin.1 h1 h2])
theorem les_rate {a b c : Ln} {x e : Int} (h : c ∈ lesT a b x e) : c.2.2 = a.2.2 ∨ c.2.2 = b.2.2 := by
  unfold lesT lesS at h
  split at h <;> split at h <;> simp only [List.mem_cons, List.not_mem_nil, or_false] at h
  · subst h; exact .inr rfl
  · rcases h with rfl | rfl
    · exact .inr rfl
    · exact .inl rfl
  · subst h; exact .inl rfl
  · rcases h with rfl | rfl
    · exact .inl rfl
    · exact .inr rfl
theorem lst_rate {L M : List Ln} (hL : stdT L) (hM : stdT M) {c : Ln} (h : c ∈ lstT L M) : -40000 ≤ c.2.2 ∧ c.2.2 ≤ 40000 := by
  have : ∀ n, n ≤ (fromsT L M).length → ∀ c, c ∈ lstN L M (fromsT L M) n → -40000 ≤ c.2.2 ∧ c.2.2 ≤ 40000 := by
    intro n
    induction n with
    | zero => intro _ c hc; cases hc
    | succ n ih =>
      intro hn c hc
      rw [lstN] at hc
      rcases List.mem_append.1 hc with hc | hc
      · exact ih (by omega) c hc
      · obtain ⟨f1, f2, f3⟩ := from_at hL hM (i := n) (by omega)
        have a := (std_okS hL f2).2.1
        have b := (std_okS hM f3).2.1
        rcases les_rate hc with e | e <;> rw [e] <;> assumption
  exact this _ (Nat.le_refl _) c h
/-- The lesser one: if it has no more pieces than may be, it stands. -/
theorem least_all {L M : List Ln} (hL : stdT L) (hM : stdT M) : (lstE L M = 0 ∨ lstE L M = 2) ∧ (lstE L M = 0 → stdT (lstV L M) ∧ ∀ x, 0 ≤ x → x ≤ 10000000000 → vAt (lstV L M) x = min (vAt L x) (vAt M x)) := by
  have hb : bothE L M = 0 := by unfold bothE; rw [if_pos (chk_ok.2 hL)]; exact chk_ok.2 hM
  have ee : lstE L M = chkT (jnT (lstT L M)) := by unfold lstE; rw [if_pos hb]; rfl
  obtain ⟨r1, r2⟩ := jn_rep (lst_rep hL hM)
  have hin : ∀ x, 0 ≤ x → x ≤ 10000000000 → -4000000000000000 ≤ min (vAt L x) (vAt M x) ∧ min (vAt L x) (vAt M x) ≤ 4000000000000000 := fun x h0 h1 => by
    have a := vAt_in hL h0 h1
    have b := vAt_in hM h0 h1
    omega
  refine ⟨?_, fun h => ?_⟩
  · by_cases hl : (jnT (lstT L M)).length ≤ 256
    · left
      rw [ee]
      exact chk_ok.2 (rep_std r1 hl (fun a ha => lst_rate hL hM (jn_mem ha)) hin)
    · right
      rw [ee]
      unfold chkT
      rw [if_pos (.inr (by omega))]
  · have e : lstV L M = jnT (lstT L M) := by unfold lstV; rw [if_pos h]
    rw [e]
    rw [ee] at h
    exact ⟨chk_ok.1 h, fun x h0 h1 => rep_v r1 h0 h1⟩

/-! ### The other sign -/
theorem turn_atT (a : Ln) (x : Int) : atT (negL a) x = - atT a x := by show -a.2.1 + (x - a.1) * -a.2.2 = -(a.2.1 + (x - a.1) * a.2.2); rw [Int.mul_neg]; omega
theorem turn_fnd (L : List Ln) (x : Int) : fndT (turnT L) x = fndT L x := by
  have c : cntLt (turnT L) x = cntLt L x := by
    induction L with
    | nil => rfl
    | cons a r ih =>
      show cntLt (negL a :: turnT r) x = _
      unfold cntLt
      rw [ih]; rfl
  unfold fndT thereB
  rw [c, turn_len]
  by_cases h : cntLt L x < L.length
  · rw [turn_at h]; rfl
  · simp [h]
theorem turn_v {L : List Ln} (h : stdT L) {x : Int} (h0 : 0 ≤ x) : vAt (turnT L) x = - vAt L x := by
  unfold vAt
  rw [turn_fnd, turn_at (std_fnd h h0).1, turn_atT]
theorem turn_end {L : List Ln} {i : Nat} : endT (turnT L) i = endT L i := by
  unfold endT
  rw [turn_len]
  split
  · rename_i h; rw [turn_at h]; rfl
  · rfl
theorem turn_std {L : List Ln} (h : stdT L) : stdT (turnT L) := by
  refine ⟨by rw [turn_len]; exact h.1, by rw [turn_len]; exact h.2.1, fun i hi => ?_⟩
  rw [turn_len] at hi
  obtain ⟨p1, p2, p3, p4, p5, p6⟩ := h.2.2 i hi
  unfold pOk
  rw [turn_end, turn_at hi, turn_atT]
  refine ⟨p1, p2, fun h0 => ?_, by show -40000 ≤ -(lnA L i).2.2 ∧ -(lnA L i).2.2 ≤ 40000; omega, by show _ ≤ -(lnA L i).2.1 ∧ -(lnA L i).2.1 ≤ _; omega, by omega⟩
  rw [turn_at (by omega)]
  exact p3 h0
theorem greatest_all {L M : List Ln} (hL : stdT L) (hM : stdT M) : (grtE L M = 0 ∨ grtE L M = 2) ∧ (grtE L M = 0 → stdT (grtV L M) ∧ ∀ x, 0 ≤ x → x ≤ 10000000000 → vAt (grtV L M) x = max (vAt L x) (vAt M x)) := by
  have hb : bothE L M = 0 := by unfold bothE; rw [if_pos (chk_ok.2 hL)]; exact chk_ok.2 hM
  have ee : grtE L M = lstE (turnT L) (turnT M) := by unfold grtE; rw [if_pos hb]
  obtain ⟨l1, l2⟩ := least_all (turn_std hL) (turn_std hM)
  rw [ee]
  refine ⟨l1, fun h => ?_⟩
  have e : grtV L M = turnT (lstV (turnT L) (turnT M)) := by unfold grtV; rw [ee, if_pos h]
  obtain ⟨s, v⟩ := l2 h
  rw [e]
  refine ⟨turn_std s, fun x h0 h1 => ?_⟩
  rw [turn_v s h0, v x h0 h1, turn_v hL h0, turn_v hM h0]
  omega
end Go.Rx
