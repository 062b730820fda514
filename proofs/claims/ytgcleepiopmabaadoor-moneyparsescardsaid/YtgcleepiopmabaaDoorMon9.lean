/- Amounts read: both ways come to the same. -/
import Derived.Test.YtgcleepiopmabaaDoorMon8
namespace Go.Rx
open Go.Proofs
set_option linter.unusedSimpArgs false
set_option linter.unusedVariables false

theorem all_getD {s : List UInt8} {p : UInt8 → Bool} : s.all p = true ↔ ∀ i, i < s.length → p (s.getD i 0) = true := by
  rw [List.all_eq_true]
  constructor
  · intro h i hi
    exact h _ (by rw [List.getD_eq_getElem?_getD, List.getElem?_eq_getElem hi]; exact List.getElem_mem hi)
  · intro h x hx
    obtain ⟨i, hi, rfl⟩ := List.mem_iff_getElem.1 hx
    have := h i hi
    rwa [List.getD_eq_getElem?_getD, List.getElem?_eq_getElem hi] at this
theorem getD_take {s : List UInt8} {i n : Nat} (h : i < n) : (s.take n).getD i 0 = s.getD i 0 := by
  rw [List.getD_eq_getElem?_getD, List.getElem?_take, if_pos h, ← List.getD_eq_getElem?_getD]

/-- Digits, or digits with two behind a point. -/
def goodM (t : List UInt8) : Prop := if dotM t = true then cokM t = true ∧ (frM t).all dgM = true else t.all dgM = true

theorem not_good {g : Int} {t : List UInt8} (h : ¬ goodM t) : peM g t = 5 := by
  unfold peM
  by_cases h20 : 20 < t.length
  · rw [if_pos h20]
  rw [if_neg h20]
  by_cases hc : dotM t = true ∧ cokM t = false
  · rw [if_pos hc]
  rw [if_neg hc]
  have hf : (frM t).all dgM = false := by
    cases hh : (frM t).all dgM with
    | false => rfl
    | true =>
      exfalso; apply h
      unfold goodM
      split
      · rename_i hd
        refine ⟨?_, hh⟩
        cases hk : cokM t with
        | true => rfl
        | false => exact absurd ⟨hd, hk⟩ hc
      · rename_i hd
        have : frM t = t := by unfold frM; rw [if_neg hd]
        rwa [this] at hh
  by_cases h12 : 12 < (frM t).length
  · rw [if_pos h12, if_neg (by rw [hf]; simp)]
  · rw [if_neg h12, if_pos]
    left; unfold whM; rw [hf, Bool.and_false]

theorem ok_get {t : List UInt8} : ∀ n, okM t n = true → (ptM t n < 0 → ptM t n = -1 ∧ ∀ i, i < n → dgM (t.getD i 0) = true) ∧ (0 ≤ ptM t n → ∃ p : Nat, ptM t n = p ∧ p < n ∧ (t.getD p 0).toNat = 46 ∧ ∀ i, i < n → i ≠ p → dgM (t.getD i 0) = true)
  | 0, _ => ⟨fun _ => ⟨rfl, fun i hi => by omega⟩, fun h => by simp [ptM] at h⟩
  | n + 1, h => by
    simp only [okM, Bool.and_eq_true] at h
    obtain ⟨ih1, ih2⟩ := ok_get n h.1
    have h2 := h.2
    by_cases hc : (t.getD n 0).toNat = 46 ∧ ptM t n < 0
    · have e : ptM t (n + 1) = n := by simp only [ptM]; rw [if_pos hc]
      obtain ⟨_, ih⟩ := ih1 hc.2
      refine ⟨fun hh => by omega, fun _ => ⟨n, e, by omega, hc.1, fun i hi hne => ih i (by omega)⟩⟩
    · have e : ptM t (n + 1) = ptM t n := by simp only [ptM]; rw [if_neg hc]
      rw [if_neg hc] at h2
      rw [e]
      refine ⟨fun hh => ?_, fun hh => ?_⟩
      · obtain ⟨q, ih⟩ := ih1 hh
        exact ⟨q, fun i hi => by
          by_cases hn : i = n
          · subst hn; exact h2
          · exact ih i (by omega)⟩
      · obtain ⟨p, q1, q2, q3, ih⟩ := ih2 hh
        exact ⟨p, q1, by omega, q3, fun i hi hne => by
          by_cases hn : i = n
          · subst hn; exact h2
          · exact ih i (by omega) hne⟩

theorem dg_46 {c : UInt8} (h : dgM c = true) : ¬ c.toNat = 46 := by have := dgM_iff.1 h; omega

theorem not_good_ref {g : Bool} {t : List UInt8} (h : ¬ goodM t) : reM g t = 5 := by
  unfold reM
  by_cases hok : okM t t.length = false
  · rw [if_pos hok]
  rw [if_neg hok]
  have hok : okM t t.length = true := by simpa using hok
  obtain ⟨o1, o2⟩ := ok_get t.length hok
  by_cases hp : 0 ≤ ptM t t.length ∧ ¬ ptM t t.length = t.length - 3
  · rw [if_pos hp]
  rw [if_neg hp]
  by_cases h0 : 0 ≤ ptM t t.length
  · obtain ⟨p, q1, q2, q3, q4⟩ := o2 h0
    have hp3 : ptM t t.length = t.length - 3 := by
      by_cases h2 : ptM t t.length = t.length - 3
      · exact h2
      · exact absurd ⟨h0, h2⟩ hp
    have hpl : p = t.length - 3 ∧ 3 ≤ t.length := by omega
    by_cases h3 : 3 < t.length
    · exfalso; apply h
      have hd : dotM t = true := by
        simp only [dotM, h3, decide_true, Bool.true_and, decide_eq_true_eq, ← hpl.1]; exact q3
      unfold goodM
      rw [if_pos hd]
      refine ⟨?_, all_getD.2 (fun i hi => ?_)⟩
      · unfold cokM
        rw [q4 _ (by omega) (by omega), q4 _ (by omega) (by omega)]; rfl
      · have e : frM t = t.take (t.length - 3) := by unfold frM; rw [if_pos hd]
        rw [e, List.length_take] at hi
        rw [e, getD_take (by omega)]
        exact q4 i (by omega) (by omega)
    · have e : rfM t = [] := by
        unfold rfM; rw [if_pos h0, q1]
        have : p = 0 := by omega
        rw [this]; rfl
      rw [if_pos (.inr (.inl e))]
  · exfalso; apply h
    obtain ⟨_, q⟩ := o1 (by omega)
    have hd : ¬ dotM t = true := fun hd => by
      simp only [dotM, Bool.and_eq_true, decide_eq_true_eq] at hd
      exact dg_46 (q (t.length - 3) (by omega)) hd.2
    unfold goodM
    rw [if_neg hd]
    exact all_getD.2 q

/-- The whole number of the digits so far. -/
def vM (t : List UInt8) : Nat → Int
  | 0 => 0
  | i + 1 => if (t.getD i 0).toNat = 46 then vM t i else dnM (vM t i) (t.getD i 0)
theorem ng_v {t : List UInt8} (ho : okM t t.length = true) : ∀ i, i ≤ t.length → 0 ≤ vM t i ∧ ((ngM t i).2.1 = true → 10000000000000 < vM t i) ∧ ((ngM t i).2.1 = false → (ngM t i).1 = vM t i ∧ vM t i ≤ 10000000000000) ∧ ((ngM t i).2.2 = true ↔ 0 < vM t i)
  | 0, _ => by simp [ngM, vM]
  | i + 1, h => by
    obtain ⟨a, b, c, d⟩ := ng_v ho i (by omega)
    by_cases h46 : (t.getD i 0).toNat = 46
    · have e1 : ngM t (i + 1) = ngM t i := by
        conv => lhs; unfold ngM
        rw [if_pos h46]
      have e2 : vM t (i + 1) = vM t i := by simp only [vM]; rw [if_pos h46]
      rw [e1, e2]; exact ⟨a, b, c, d⟩
    · have hd := ok_dig (i := i) (by omega) ho h46
      have e2 : vM t (i + 1) = dnM (vM t i) (t.getD i 0) := by simp only [vM]; rw [if_neg h46]
      have e1 : ngM t (i + 1) = (if 10000000000000 < dnM (ngM t i).1 (t.getD i 0) then 0 else dnM (ngM t i).1 (t.getD i 0), (ngM t i).2.1 || decide (10000000000000 < dnM (ngM t i).1 (t.getD i 0)), (ngM t i).2.2 || !decide ((t.getD i 0).toNat = 48)) := by
        conv => lhs; unfold ngM
        rw [if_neg h46]
      rw [e1, e2]
      unfold dnM at *
      generalize (t.getD i 0).toNat = k at *
      generalize vM t i = v at *
      clear e1 e2
      generalize ngM t i = q at b c d ⊢
      obtain ⟨x, y, z⟩ := q
      dsimp only at b c d ⊢
      refine ⟨by omega, ?_, ?_, ?_⟩
      · intro h1
        rw [Bool.or_eq_true, decide_eq_true_eq] at h1
        rcases h1 with h1 | h1
        · have := b h1; omega
        · cases y
          · have := (c rfl).1; omega
          · have := b rfl; omega
      · intro h1
        rw [Bool.or_eq_false_iff, decide_eq_false_iff_not] at h1
        have c1 := c h1.1
        rw [if_neg h1.2, c1.1]; omega
      · rw [Bool.or_eq_true, d, Bool.not_eq_true', decide_eq_false_iff_not]; omega

theorem ok_digs {t : List UInt8} {m : Nat} (hm : m ≤ t.length) (h : ∀ i, i < m → dgM (t.getD i 0) = true) : ∀ i, i ≤ m → okM t i = true ∧ ptM t i = -1 ∧ vM t i = numM (t.take i)
  | 0, _ => ⟨rfl, rfl, rfl⟩
  | i + 1, hi => by
    obtain ⟨a, b, c⟩ := ok_digs hm h i (by omega)
    have hd := h i (by omega)
    have hn := dg_46 hd
    refine ⟨?_, ?_, ?_⟩
    · simp only [okM, a]; rw [if_neg (fun hc => hn hc.1), hd]; rfl
    · simp only [ptM]; rw [if_neg (fun hc => hn hc.1), b]
    · simp only [vM]; rw [if_neg hn, c, take_snocM (by omega), numM_snoc]; rfl

/-- A text of the right form, as the document reads it. -/
theorem good_ref {t : List UInt8} (h : goodM t) : okM t t.length = true ∧ rfM t = frM t ∧ (0 ≤ ptM t t.length → ptM t t.length = t.length - 3) ∧ (if ptM t t.length < 0 then vM t t.length * 100 else vM t t.length) = numM (frM t) * 100 + coM t ∧ 0 ≤ coM t ∧ coM t ≤ 99 ∧ (frM t).all dgM = true ∧ (dotM t = true → cokM t = true) := by
  unfold goodM at h
  by_cases hd : dotM t = true
  · rw [if_pos hd] at h
    have h3 := hd
    simp only [dotM, Bool.and_eq_true, decide_eq_true_eq] at h3
    obtain ⟨h3, h46⟩ := h3
    have ef : frM t = t.take (t.length - 3) := by unfold frM; rw [if_pos hd]
    have hco := h.1
    have hfr := h.2
    simp only [cokM, Bool.and_eq_true] at h
    obtain ⟨⟨d1, d2⟩, ha⟩ := h
    have hdg : ∀ i, i < t.length - 3 → dgM (t.getD i 0) = true := fun i hi => by
      rw [ef] at ha
      have := all_getD.1 ha i (by rw [List.length_take]; omega)
      rwa [getD_take (by omega)] at this
    obtain ⟨a, b, c⟩ := ok_digs (by omega) hdg (t.length - 3) (Nat.le_refl _)
    obtain ⟨m, hm⟩ : ∃ m, m = t.length - 3 := ⟨_, rfl⟩
    have hl : t.length = m + 3 := by omega
    have hl2 : t.length - 2 = m + 1 := by omega
    have hl1 : t.length - 1 = m + 2 := by omega
    rw [← hm] at a b c h46 ef
    have hcv : coM t = (((t.getD (m + 1) 0).toNat : Int) - 48) * 10 + ((t.getD (m + 2) 0).toNat - 48) := by unfold coM; rw [if_pos hd, hl2, hl1]
    rw [hl2] at d1
    rw [hl1] at d2
    have n1 := dg_46 d1
    have n2 := dg_46 d2
    have p1 : ptM t (m + 1) = m := by simp only [ptM]; rw [if_pos ⟨h46, by omega⟩]
    have p2 : ptM t (m + 2) = m := by rw [← p1]; show (if (t.getD (m + 1) 0).toNat = 46 ∧ ptM t (m + 1) < 0 then ((m + 1 : Nat) : Int) else ptM t (m + 1)) = _; rw [if_neg (fun hc => n1 hc.1)]
    have p3 : ptM t (m + 3) = m := by rw [← p2]; show (if (t.getD (m + 2) 0).toNat = 46 ∧ ptM t (m + 2) < 0 then ((m + 2 : Nat) : Int) else ptM t (m + 2)) = _; rw [if_neg (fun hc => n2 hc.1)]
    have o1 : okM t (m + 1) = true := by simp only [okM, a]; rw [if_pos ⟨h46, by omega⟩]; rfl
    have o2 : okM t (m + 2) = true := by
      show (okM t (m + 1) && (if (t.getD (m + 1) 0).toNat = 46 ∧ ptM t (m + 1) < 0 then true else dgM (t.getD (m + 1) 0))) = true
      rw [o1, if_neg (fun hc => n1 hc.1), d1]; rfl
    have o3 : okM t (m + 3) = true := by
      show (okM t (m + 2) && (if (t.getD (m + 2) 0).toNat = 46 ∧ ptM t (m + 2) < 0 then true else dgM (t.getD (m + 2) 0))) = true
      rw [o2, if_neg (fun hc => n2 hc.1), d2]; rfl
    have v1 : vM t (m + 1) = numM (t.take m) := by simp only [vM]; rw [if_pos h46, c]
    have v2 : vM t (m + 2) = dnM (vM t (m + 1)) (t.getD (m + 1) 0) := by
      show (if (t.getD (m + 1) 0).toNat = 46 then vM t (m + 1) else dnM (vM t (m + 1)) (t.getD (m + 1) 0)) = _
      rw [if_neg n1]
    have v3 : vM t (m + 3) = dnM (vM t (m + 2)) (t.getD (m + 2) 0) := by
      show (if (t.getD (m + 2) 0).toNat = 46 then vM t (m + 2) else dnM (vM t (m + 2)) (t.getD (m + 2) 0)) = _
      rw [if_neg n2]
    have c1 := dgM_iff.1 d1
    have c2 := dgM_iff.1 d2
    rw [hl, hcv]
    refine ⟨o3, ?_, fun _ => by omega, ?_, by omega, by omega, hfr, fun _ => hco⟩
    · unfold rfM
      rw [hl, p3, if_pos (by omega), ef]; rfl
    · rw [if_neg (by omega), v3, v2, v1, ef]; unfold dnM; omega
  · rw [if_neg hd] at h
    have ef : frM t = t := by unfold frM; rw [if_neg hd]
    have ec : coM t = 0 := by unfold coM; rw [if_neg hd]
    obtain ⟨a, b, c⟩ := ok_digs (Nat.le_refl _) (all_getD.1 h) t.length (Nat.le_refl _)
    rw [ef, ec]
    refine ⟨a, ?_, fun h => by omega, ?_, by omega, by omega, h, fun h => absurd h hd⟩
    · unfold rfM; rw [if_neg (by omega)]
    · rw [if_pos (by omega), c, List.take_length]; omega

theorem numM_big {s : List UInt8} (ha : s.all dgM = true) (hh : ¬ (s.getD 0 0).toNat = 48) : ∀ i : Nat, i + 1 ≤ s.length → 10 ^ i ≤ numM (s.take (i + 1))
  | 0, hi => by
    have := dgM_iff.1 (all_getD.1 ha 0 (by omega))
    rw [take_snocM (by omega), numM_snoc]
    have e : numM (s.take 0) = 0 := rfl
    rw [e]; omega
  | i + 1, hi => by
    have ih := numM_big ha hh i (by omega)
    have := dgM_iff.1 (all_getD.1 ha (i + 1) (by omega))
    rw [take_snocM (by omega), numM_snoc]
    have e : (10 : Int) ^ (i + 1) = 10 ^ i * 10 := Int.pow_succ ..
    omega

theorem pow_big {i : Nat} (h : 12 ≤ i) : (1000000000000 : Int) ≤ 10 ^ i := by
  obtain ⟨k, rfl⟩ := Nat.le.dest h
  rw [Int.pow_add]
  have h1 : (1 : Int) ≤ 10 ^ k := by
    have : (0 : Int) < 10 ^ k := Int.pow_pos (by decide)
    omega
  have h2 : (10 : Int) ^ 12 = 1000000000000 := by decide
  rw [h2]; omega

theorem whM_iff {s : List UInt8} : whM s = true ↔ s ≠ [] ∧ (s.length = 1 ∨ ¬ (s.getD 0 0).toNat = 48) ∧ s.all dgM = true := by
  simp only [whM, Bool.and_eq_true, Bool.or_eq_true, Bool.not_eq_true', decide_eq_false_iff_not, decide_eq_true_eq, ne_eq, and_assoc]
theorem whM_not {s : List UInt8} (h : ¬ (s ≠ [] ∧ (s.length = 1 ∨ ¬ (s.getD 0 0).toNat = 48) ∧ s.all dgM = true)) : whM s = false := by
  cases hh : whM s with
  | false => rfl
  | true => exact absurd (whM_iff.1 hh) h

/-- Both readings of a text of the right form. -/
theorem good_same {g : Bool} {t : List UInt8} (h : goodM t) : peM (if g = true then -1 else 1) t = reM g t ∧ (reM g t = 0 → amM (if g = true then -1 else 1) t = (if g = true then -n2M t else n2M t)) := by
  obtain ⟨o, r, p, v, c0, c1, a, dc⟩ := good_ref h
  obtain ⟨w0, w1, w2, w3⟩ := ng_v o t.length (Nat.le_refl _)
  have hN := (numM_all a).1
  have hp3 : ¬ (0 ≤ ptM t t.length ∧ ¬ ptM t t.length = t.length - 3) := fun hc => hc.2 (p hc.1)
  have hR : reM g t = if 20 < t.length ∨ frM t = [] ∨ (1 < (frM t).length ∧ ((frM t).getD 0 0).toNat = 48) then 5 else if g = true ∧ (ngM t t.length).2.2 = false then 5 else if (ngM t t.length).2.1 = true ∨ 100000000000 < n2M t then 10 else 0 := by
    unfold reM; rw [if_neg (by rw [o]; simp), if_neg hp3, r]
  have hP : peM (if g = true then -1 else 1) t = if 20 < t.length then 5 else if 12 < (frM t).length then (if whM ((frM t).take 12) = true ∧ (frM t).all dgM = true then 10 else 5) else if whM (frM t) = false ∨ ((if g = true then -1 else 1) < (0 : Int) ∧ numM (frM t) = 0 ∧ coM t = 0) then 5 else chkE (rightB (amM (if g = true then -1 else 1) t)) := by
    have : ¬ (dotM t = true ∧ cokM t = false) := fun hc => by rw [dc hc.1] at hc; cases hc.2
    unfold peM; rw [if_neg this]
  by_cases h20 : 20 < t.length
  · rw [hR, hP, if_pos h20, if_pos (Or.inl h20)]; exact ⟨rfl, fun h => absurd h (by decide)⟩
  rw [if_neg h20] at hP
  by_cases he : frM t = []
  · have hl : ¬ 12 < (frM t).length := by rw [he]; decide
    have hw : whM (frM t) = false := by rw [he]; rfl
    rw [hR, hP, if_pos (Or.inr (Or.inl he)), if_neg hl, if_pos (Or.inl hw)]; exact ⟨rfl, fun h => absurd h (by decide)⟩
  by_cases hz : 1 < (frM t).length ∧ ((frM t).getD 0 0).toNat = 48
  · rw [hR, if_pos (Or.inr (Or.inr hz)), hP]
    refine ⟨?_, fun h => absurd h (by decide)⟩
    by_cases hl : 12 < (frM t).length
    · rw [if_pos hl, if_neg]
      rintro ⟨hc, _⟩
      simp only [whM, Bool.and_eq_true, Bool.or_eq_true, Bool.not_eq_true', decide_eq_false_iff_not, decide_eq_true_eq] at hc
      rw [getD_take (by omega), List.length_take] at hc
      rcases hc.1.2 with h1 | h1
      · omega
      · exact h1 hz.2
    · rw [if_neg hl, if_pos (Or.inl ?_)]
      exact whM_not (fun hc => hc.2.1.elim (fun h1 => by omega) (fun h1 => h1 hz.2))
  rw [if_neg (fun hc => hc.elim h20 (fun hc => hc.elim he hz))] at hR
  have hw : whM (frM t) = true := by
    refine whM_iff.2 ⟨he, ?_, a⟩
    by_cases h1 : (frM t).length = 1
    · exact .inl h1
    · have hpos := List.length_pos_iff.2 he
      exact .inr (fun hc => hz ⟨by omega, hc⟩)
  have hA : n2M t = (if ptM t t.length < 0 then (ngM t t.length).1 * 100 else (ngM t t.length).1) := rfl
  have hA0 : 0 < vM t t.length ↔ 0 < numM (frM t) * 100 + coM t := by rw [← v]; split <;> omega
  have hAb : (ngM t t.length).2.1 = true → 100000000000 < numM (frM t) * 100 + coM t := fun h => by have := w1 h; rw [← v]; split <;> omega
  have hAs : (ngM t t.length).2.1 = false → n2M t = numM (frM t) * 100 + coM t := fun h => by rw [hA, (w2 h).1, v]
  have h22 : (ngM t t.length).2.2 = false ↔ numM (frM t) = 0 ∧ coM t = 0 := by
    rw [← Bool.not_eq_true, w3, hA0]; omega
  have hR2 : reM g t = if g = true ∧ numM (frM t) = 0 ∧ coM t = 0 then 5 else if 100000000000 < numM (frM t) * 100 + coM t then 10 else 0 := by
    rw [hR]
    have e1 : (g = true ∧ (ngM t t.length).2.2 = false) ↔ (g = true ∧ numM (frM t) = 0 ∧ coM t = 0) := by rw [h22]
    have e2 : ((ngM t t.length).2.1 = true ∨ 100000000000 < n2M t) ↔ 100000000000 < numM (frM t) * 100 + coM t := by
      cases hb : (ngM t t.length).2.1 with
      | true => simp [hAb hb]
      | false => simp [hAs hb]
    simp only [e1, e2]
  have hval : reM g t = 0 → amM (if g = true then -1 else 1) t = (if g = true then -n2M t else n2M t) := fun h0 => by
    rw [hR2] at h0
    have hb : (ngM t t.length).2.1 = false := by
      cases hb : (ngM t t.length).2.1 with
      | false => rfl
      | true =>
        exfalso
        have := hAb hb
        rw [if_pos this] at h0
        split at h0 <;> cases h0
    unfold amM
    rw [hAs hb]
    cases g <;> simp <;> omega
  refine ⟨?_, hval⟩
  rw [hR2, hP]
  by_cases hl : 12 < (frM t).length
  · have h48 : ¬ ((frM t).getD 0 0).toNat = 48 := fun hc => hz ⟨by omega, hc⟩
    have hbig := numM_big a h48 ((frM t).length - 1) (by omega)
    rw [show (frM t).length - 1 + 1 = (frM t).length by omega, List.take_length] at hbig
    have hpb := pow_big (i := (frM t).length - 1) (by omega)
    have hw12 : whM ((frM t).take 12) = true := by
      have hall : ((frM t).take 12).all dgM = true := by
        rw [List.all_eq_true] at a ⊢
        exact fun y hy => a y (List.mem_of_mem_take hy)
      refine whM_iff.2 ⟨fun hc => ?_, .inr (by rw [getD_take (by omega)]; exact h48), hall⟩
      have : ((frM t).take 12).length = 0 := by rw [hc]; rfl
      rw [List.length_take] at this; omega
    rw [if_pos hl, if_pos ⟨hw12, a⟩, if_neg (by omega), if_pos (by omega)]
  · rw [if_neg hl]
    have hgs : (if g = true then -1 else 1) < (0 : Int) ↔ g = true := by cases g <;> simp
    simp only [hgs, hw]
    by_cases h5 : g = true ∧ numM (frM t) = 0 ∧ coM t = 0
    · rw [if_pos h5, if_pos (.inr h5)]
    · rw [if_neg h5, if_neg (by rintro (h | h); · cases h
                                · exact h5 h)]
      have hb : rightB (amM (if g = true then -1 else 1) t) = decide (numM (frM t) * 100 + coM t ≤ 100000000000) := by
        unfold rightB amM
        cases g
        · simp; omega
        · simp; omega
      rw [hb]
      by_cases h6 : 100000000000 < numM (frM t) * 100 + coM t
      · have : ¬ numM (frM t) * 100 + coM t ≤ 100000000000 := by omega
        simp [this, h6, chkE]
      · have : numM (frM t) * 100 + coM t ≤ 100000000000 := by omega
        simp [this, h6, chkE]

theorem u8_backM {c : UInt8} (h : 48 ≤ c.toNat ∧ c.toNat ≤ 57) : UInt8.ofNat (48 + (c.toNat - 48)) = c := by
  rw [show 48 + (c.toNat - 48) = c.toNat by omega, UInt8.ofNat_toNat]
theorem dec_backM : ∀ (n : Nat) (s : List UInt8), s.length = n → s ≠ [] → s.all dgM = true → ¬ (1 < s.length ∧ (s.getD 0 0).toNat = 48) → Lib.decDigits (numM s).toNat = s
  | 0, s, hl, hs, _, _ => absurd (List.length_eq_zero_iff.1 hl) hs
  | n + 1, s, hl, hs, ha, hz => by
    obtain ⟨l, c, rfl⟩ : ∃ l c, s = l ++ [c] := ⟨s.dropLast, s.getLast hs, (List.dropLast_concat_getLast hs).symm⟩
    rw [List.all_append, Bool.and_eq_true] at ha
    have hc : 48 ≤ c.toNat ∧ c.toNat ≤ 57 := dgM_iff.1 (by simpa using ha.2)
    rw [numM_snoc]
    by_cases hl0 : l = []
    · subst hl0
      have e0 : numM ([] : List UInt8) = 0 := rfl
      rw [e0]
      have ez : (10 * 0 + ((c.toNat : Int) - 48)).toNat = c.toNat - 48 := by omega
      rw [ez, Lib.decDigits_one (by omega), u8_backM hc]; rfl
    · have hll : l.length = n := by rw [List.length_append, List.length_singleton] at hl; omega
      have hlp := List.length_pos_iff.2 hl0
      have hhd : ¬ (l.getD 0 0).toNat = 48 := by
        intro hq
        refine hz ⟨by rw [List.length_append, List.length_singleton]; omega, ?_⟩
        rw [List.getD_eq_getElem?_getD, List.getElem?_append_left (by omega), ← List.getD_eq_getElem?_getD]; exact hq
      have q := dec_backM n l hll hl0 ha.1 (fun h => hhd h.2)
      have hb := numM_big ha.1 hhd (l.length - 1) (by omega)
      rw [show l.length - 1 + 1 = l.length by omega, List.take_length] at hb
      have h1 : (0 : Int) < 10 ^ (l.length - 1) := Int.pow_pos (by decide)
      have e1 : (10 * numM l + ((c.toNat : Int) - 48)).toNat / 10 = (numM l).toNat := by omega
      have e2 : (10 * numM l + ((c.toNat : Int) - 48)).toNat % 10 = c.toNat - 48 := by omega
      rw [dec_stepM (by omega), e1, e2, q, u8_backM hc]

/-- What was read is written as it was, or with the coins that it had not. -/
theorem parse_text {s : List UInt8} (h : peM (sgM s) (tM s) = 0) : textM (amM (sgM s) (tM s)) = s ∨ textM (amM (sgM s) (tM s)) = s ++ [46, 48, 48] := by
  have hg : goodM (tM s) := by
    by_cases hg : goodM (tM s)
    · exact hg
    · rw [not_good hg] at h; cases h
  obtain ⟨o, r, p, v, c0, c1, a, dc⟩ := good_ref hg
  have hN := (numM_all a).1
  have hs : (if negM s = true then [45] else []) ++ tM s = s := by
    unfold tM
    by_cases hn : negM s = true
    · rw [if_pos hn, if_pos hn]
      simp only [negM, Bool.and_eq_true, decide_eq_true_eq] at hn
      match s, hn with
      | c :: r, hn =>
        have hc : c = 45 := UInt8.toNat_inj.1 hn.2
        subst hc; rfl
    · rw [if_neg hn, if_neg hn]; rfl
  have hpc : ¬ (dotM (tM s) = true ∧ cokM (tM s) = false) := fun hc => by rw [dc hc.1] at hc; cases hc.2
  unfold peM at h
  rw [if_neg hpc] at h
  split at h
  · cases h
  split at h
  · split at h <;> cases h
  split at h
  · cases h
  rename_i hw
  have hw1 : whM (frM (tM s)) = true := by
    cases hh : whM (frM (tM s)) with
    | true => rfl
    | false => exact absurd (.inl hh) hw
  have hw2 : ¬ (sgM s < 0 ∧ numM (frM (tM s)) = 0 ∧ coM (tM s) = 0) := fun hc => hw (.inr hc)
  have hne : frM (tM s) ≠ [] := (whM_all hw1).2
  have hz : ¬ (1 < (frM (tM s)).length ∧ ((frM (tM s)).getD 0 0).toNat = 48) := by
    rintro ⟨z1, z2⟩
    simp only [whM, Bool.and_eq_true, Bool.or_eq_true, Bool.not_eq_true', decide_eq_false_iff_not, decide_eq_true_eq] at hw1
    rcases hw1.1.2 with h1 | h1
    · omega
    · exact h1 z2
  have hdec := dec_backM _ _ rfl hne a hz
  have habs : (amM (sgM s) (tM s)).natAbs = (numM (frM (tM s)) * 100 + coM (tM s)).toNat := by
    unfold amM sgM
    split <;> omega
  have hsig : (if amM (sgM s) (tM s) < 0 then [45] else ([] : List UInt8)) = (if negM s = true then [45] else []) := by
    unfold amM
    unfold sgM at hw2 ⊢
    by_cases hn : negM s = true
    · rw [if_pos hn] at hw2 ⊢
      rw [if_pos (by omega), if_pos hn]
    · rw [if_neg hn] at hw2 ⊢
      rw [if_neg (by omega), if_neg hn]
  have hq : (amM (sgM s) (tM s)).natAbs / 100 = (numM (frM (tM s))).toNat := by omega
  have hm : (amM (sgM s) (tM s)).natAbs % 100 = (coM (tM s)).toNat := by omega
  unfold textM bodyM
  rw [hsig, hq, hm, hdec]
  by_cases hd : dotM (tM s) = true
  · left
    conv => rhs; rw [← hs]
    congr 1
    have hco := dc hd
    have h3 := hd
    simp only [dotM, Bool.and_eq_true, decide_eq_true_eq] at h3
    have hcv : coM (tM s) = ((((tM s).getD ((tM s).length - 2) 0).toNat : Int) - 48) * 10 + (((tM s).getD ((tM s).length - 1) 0).toNat - 48) := by unfold coM; rw [if_pos hd]
    simp only [cokM, Bool.and_eq_true] at hco
    have d1 := dgM_iff.1 hco.1
    have d2 := dgM_iff.1 hco.2
    unfold frM twoM
    rw [if_pos hd]
    have e1 : (coM (tM s)).toNat / 10 = ((tM s).getD ((tM s).length - 2) 0).toNat - 48 := by omega
    have e2 : (coM (tM s)).toNat % 10 = ((tM s).getD ((tM s).length - 1) 0).toNat - 48 := by omega
    rw [e1, e2, u8_backM d1, u8_backM d2]
    generalize tM s = t at *
    have e46 : t.getD (t.length - 3) 0 = 46 := UInt8.toNat_inj.1 h3.2
    have k1 := take_snocM (s := t) (i := t.length - 3) (by omega)
    have k2 := take_snocM (s := t) (i := t.length - 2) (by omega)
    have k3 := take_snocM (s := t) (i := t.length - 1) (by omega)
    rw [show t.length - 3 + 1 = t.length - 2 by omega] at k1
    rw [show t.length - 2 + 1 = t.length - 1 by omega] at k2
    rw [show t.length - 1 + 1 = t.length by omega, List.take_length] at k3
    conv => rhs; rw [k3, k2, k1, e46]
    simp
  · right
    have ef : frM (tM s) = tM s := by unfold frM; rw [if_neg hd]
    have ec : coM (tM s) = 0 := by unfold coM; rw [if_neg hd]
    rw [ef, ec]
    conv => rhs; rw [← hs]
    rw [List.append_assoc]
    rfl

def sh_lparses : List SV → Option (List UInt8)
  | [.str s] => some s
  | _ => none
def em_lparses : List UInt8 → List SV := fun s => [.str s]
theorem sh_lparses_le : ∀ us a, sh_lparses us = some a → leL us (em_lparses a) := by
  intro us a h
  unfold sh_lparses at h
  split at h
  · cases h; exact (.cons (.refl _) .nil)
  · cases h
def lparsesC : Con := conOf sh_lparses (fun s => some (Ob (s.length ≤ maxLen))) (fun s => .bool true)
set_option maxRecDepth 100000 in
theorem vc_lparses (s : List UInt8) : (wpF ⟨45, tyT, [(12, ccountsC), (15, mparseC), (17, rparseC), (13, mtextC)], false, 0, [], false⟩ (noAnn) [] Tryd.f4 (em_lparses s) (.bool true)) = (((((!true) = true) → ((true = false) ∧ (True))) ∧ (((!true) = false) → (((decide ((60 : Int) < (↑s.length : Int)) = true) → ((true = true) ∧ (True))) ∧ ((decide ((60 : Int) < (↑s.length : Int)) = false) → (Ob ((s.length ≤ (1000 : Nat))) ∧ (Ob ((s.length ≤ (60 : Nat))) ∧ ((((!decide (pvM (sgM s) (tM s) = rvM (negM s) (tM s))) = true) → ((true = false) ∧ (True))) ∧ (((!decide (pvM (sgM s) (tM s) = rvM (negM s) (tM s))) = false) → ((((!decide (peM (sgM s) (tM s) = reM (negM s) (tM s))) = true) → ((true = false) ∧ (True))) ∧ (((!decide (peM (sgM s) (tM s) = reM (negM s) (tM s))) = false) → ((((!decide (peM (sgM s) (tM s) = (0 : Int))) = true) → ((true = true) ∧ (True))) ∧ (((!decide (peM (sgM s) (tM s) = (0 : Int))) = false) → (Ob ((in64 (pvM (sgM s) (tM s)))) ∧ (((decide (textM (pvM (sgM s) (tM s)) = s) = true) → ((true = true) ∧ (True))) ∧ ((decide (textM (pvM (sgM s) (tM s)) = s) = false) → (Ob ((in64 (pvM (sgM s) (tM s)))) ∧ (Ob ((s.length + (3 : Nat) ≤ (1099511627776 : Nat))) ∧ ((decide (textM (pvM (sgM s) (tM s)) = s ++ [(46 : UInt8), (48 : UInt8), (48 : UInt8)]) = true) ∧ (True)))))))))))))))))))) := by kernel_rfl
theorem lparses_known : Known Tryd.prog 4 lparsesC := by
  refine known1 (nt := 45) (An := fun s => noAnn) (labs := []) (lit := false) (em := em_lparses) sh_lparses_le (by kernel_rfl) mixedT tyT_ok (.cons ccounts_known (.cons mparse_known (.cons rparse_known (.cons mtext_known .nil)))) Tryd.func4 (by kernel_rfl) (fun a => by kernel_rfl) (fun a => by rfl) (fun s ha => ?_)
  replace ha : s.length ≤ maxLen := ha.out
  refine ⟨_, vc_lparses s, ?_⟩
  simp only [Int.reduceLE, Int.reduceLT, Int.reduceEq, Int.reduceNe, Nat.reduceLeDiff, Nat.reduceEqDiff, beq_eq_false_iff_ne, beq_iff_eq, decide_eq_decide, ne_eq, eq_self, true_and, and_true, and_self, and_false, false_and, Bool.not_true, Bool.not_false, Bool.false_eq_true, Bool.true_eq_false, false_implies, true_implies, implies_true, imp_false, not_true, not_false_eq_true, decide_eq_true_eq, decide_eq_false_iff_not, Bool.not_eq_true', Bool.not_eq_false', Bool.and_eq_true, Classical.not_not, decide_true, decide_false, Bool.and_true, Bool.true_and, if_true, if_false, Ob_iff]
  intro h60
  have hs : peM (sgM s) (tM s) = reM (negM s) (tM s) ∧ pvM (sgM s) (tM s) = rvM (negM s) (tM s) := by
    by_cases hg : goodM (tM s)
    · obtain ⟨a, b⟩ := good_same (g := negM s) hg
      have a' : peM (sgM s) (tM s) = reM (negM s) (tM s) := a
      refine ⟨a', ?_⟩
      unfold pvM rvM
      rw [a']
      by_cases h0 : reM (negM s) (tM s) = 0
      · rw [if_pos h0, if_pos h0]; exact b h0
      · rw [if_neg h0, if_neg h0]
    · have a := not_good (g := sgM s) hg
      have b := not_good_ref (g := negM s) hg
      refine ⟨by rw [a, b], ?_⟩
      unfold pvM rvM
      rw [a, b]; rfl
  refine ⟨by omega, by omega, hs.2, fun _ => ⟨hs.1, fun _ h0 => ?_⟩⟩
  have hv : pvM (sgM s) (tM s) = amM (sgM s) (tM s) := by unfold pvM; rw [if_pos h0]
  have hr : rightB (amM (sgM s) (tM s)) = true := by
    have h1 := h0
    unfold peM at h1
    split at h1
    · cases h1
    split at h1
    · cases h1
    split at h1
    · split at h1 <;> cases h1
    split at h1
    · cases h1
    cases hb : rightB (amM (sgM s) (tM s)) with
    | true => rfl
    | false => rw [hb] at h1; cases h1
  have h64 : in64 (pvM (sgM s) (tM s)) := by
    rw [hv]
    simp only [rightB, Bool.and_eq_true, decide_eq_true_eq] at hr
    simp only [in64]; omega
  refine ⟨h64, fun hne => ⟨h64, by omega, ?_⟩⟩
  rw [hv] at hne ⊢
  exact (parse_text h0).resolve_left hne

end Go.Rx
