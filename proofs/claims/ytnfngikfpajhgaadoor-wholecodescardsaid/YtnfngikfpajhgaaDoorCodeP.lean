/- Tax codes: what is written is read, and what is read is written so. -/
import Derived.Test.YtnfngikfpajhgaaDoorCode6
namespace Go.Rx
open Go.Proofs
set_option linter.unusedSimpArgs false
set_option linter.unusedVariables false

theorem ofNat_u8 {k : Nat} (h : k < 10) : (UInt8.ofNat (48 + k)).toNat = 48 + k := by
  rw [UInt8.toNat_ofNat']; omega
theorem u8_back {c : UInt8} {k : Nat} (h : c.toNat = k) : UInt8.ofNat k = c := by
  apply UInt8.toNat_inj.1
  rw [UInt8.toNat_ofNat', ← h]
  have := c.toNat_lt
  omega
theorem dgOk_iff {c : UInt8} : dgOk c = true ↔ 48 ≤ c.toNat ∧ c.toNat ≤ 57 := by simp [dgOk]

theorem dec_step {u : Nat} (h : ¬ u < 10) : Lib.decDigits u = Lib.decDigits (u / 10) ++ [UInt8.ofNat (48 + u % 10)] := by
  conv => lhs; rw [Lib.decDigits]
  rw [dif_neg h]

/-- A number's digits: they are digits, tell the number, and begin with 0 only if there is one alone. -/
theorem dec_facts : ∀ (k u : Nat), u < 10 ^ (k + 1) → (Lib.decDigits u).all dgOk = true ∧ digN (Lib.decDigits u) = u ∧ (Lib.decDigits u).length ≤ k + 1 ∧ 1 ≤ (Lib.decDigits u).length ∧ (0 < u → (Lib.decDigits u).getD 0 0 ≠ 48) ∧ (u = 0 → (Lib.decDigits u).length = 1)
  | 0, u, h => by
    have h : u < 10 := by simpa using h
    rw [Lib.decDigits_one h]
    refine ⟨?_, ?_, by simp, by simp, ?_, by simp⟩
    · simp only [List.all_cons, List.all_nil, Bool.and_true, dgOk_iff, ofNat_u8 h]; omega
    · simp only [digN, List.foldl_cons, List.foldl_nil, dgN, ofNat_u8 h]; omega
    · intro hp hc
      have : (UInt8.ofNat (48 + u)).toNat = 48 := by
        have hc' : UInt8.ofNat (48 + u) = 48 := hc
        rw [hc']; rfl
      rw [ofNat_u8 h] at this; omega
  | k + 1, u, h => by
    by_cases hs : u < 10
    · obtain ⟨a, b, c, d, e, f⟩ := dec_facts 0 u (by simpa using hs)
      exact ⟨a, b, by omega, d, e, f⟩
    · have hq : u / 10 < 10 ^ (k + 1) := by rw [Nat.pow_succ] at h; omega
      obtain ⟨a, b, c, d, e, f⟩ := dec_facts k (u / 10) hq
      have hm : u % 10 < 10 := Nat.mod_lt _ (by decide)
      rw [dec_step hs]
      refine ⟨?_, ?_, ?_, ?_, ?_, ?_⟩
      · rw [List.all_append, a]
        simp only [List.all_cons, List.all_nil, Bool.and_true, Bool.true_and, dgOk_iff, ofNat_u8 hm]; omega
      · rw [digN_snoc, b, ofNat_u8 hm]; omega
      · rw [List.length_append, List.length_singleton]; omega
      · rw [List.length_append, List.length_singleton]; omega
      · intro _ hc
        refine e (by omega) ?_
        rw [List.getD_eq_getElem?_getD, List.getElem?_append_left (by omega)] at hc
        rw [List.getD_eq_getElem?_getD]; exact hc
      · intro h0; omega

/-- Digits that don't begin with 0 (or are one alone) are those of their number. -/
theorem dec_back : ∀ (n : Nat) (s : List UInt8), s.length = n → s ≠ [] → s.all dgOk = true → ¬ (1 < s.length ∧ s.getD 0 0 = 48) → 0 ≤ digN s ∧ Lib.decDigits (digN s).toNat = s
  | 0, s, hl, hs, _, _ => absurd (List.length_eq_zero_iff.1 hl) hs
  | n + 1, s, hl, hs, ha, hz => by
    obtain ⟨l, c, rfl⟩ : ∃ l c, s = l ++ [c] := ⟨s.dropLast, s.getLast hs, (List.dropLast_concat_getLast hs).symm⟩
    rw [List.all_append, Bool.and_eq_true] at ha
    have hc : 48 ≤ c.toNat ∧ c.toNat ≤ 57 := dgOk_iff.1 (by simpa using ha.2)
    rw [digN_snoc]
    by_cases hl0 : l = []
    · subst hl0
      have e0 : digN ([] : List UInt8) = 0 := rfl
      rw [e0]
      have ez : (10 * 0 + ((c.toNat : Int) - 48)).toNat = c.toNat - 48 := by omega
      rw [ez, Lib.decDigits_one (by omega)]
      refine ⟨by omega, ?_⟩
      rw [u8_back (c := c) (by omega)]; rfl
    · have hll : l.length = n := by rw [List.length_append, List.length_singleton] at hl; omega
      have hlp : 1 ≤ l.length := by
        have := List.length_pos_iff.2 hl0; omega
      have hhd : l.getD 0 0 ≠ 48 := by
        intro hq
        refine hz ⟨by rw [List.length_append, List.length_singleton]; omega, ?_⟩
        rw [List.getD_eq_getElem?_getD, List.getElem?_append_left (by omega), ← List.getD_eq_getElem?_getD]; exact hq
      obtain ⟨p, q⟩ := dec_back n l hll hl0 ha.1 (fun h => hhd h.2)
      have hpos : 0 < digN l := by
        rcases Int.lt_or_eq_of_le p with h | h
        · exact h
        · exfalso
          rw [← h] at q
          apply hhd
          rw [← q, show Int.toNat 0 = 0 from rfl, Lib.decDigits_one (by omega)]
          rfl
      refine ⟨by omega, ?_⟩
      have e1 : (10 * digN l + ((c.toNat : Int) - 48)).toNat / 10 = (digN l).toNat := by omega
      have e2 : (10 * digN l + ((c.toNat : Int) - 48)).toNat % 10 = c.toNat - 48 := by omega
      rw [dec_step (by omega), e1, e2, q, u8_back (c := c) (by omega)]

theorem numOk_in {s : List UInt8} (h : numOk s = true) : s ≠ [] ∧ s.length ≤ 6 ∧ ¬ (1 < s.length ∧ s.getD 0 0 = 48) ∧ s.all dgOk = true := by
  simp only [numOk, Bool.and_eq_true, Bool.not_eq_true', decide_eq_false_iff_not, decide_eq_true_eq, Bool.and_eq_false_iff] at h
  refine ⟨h.1.1.1, h.1.1.2, ?_, h.2⟩
  rintro ⟨h1, h2⟩
  rcases h.1.2 with h3 | h3
  · exact h3 h1
  · exact h3 h2
theorem numOk_of {s : List UInt8} (h1 : s ≠ []) (h2 : s.length ≤ 6) (h3 : ¬ (1 < s.length ∧ s.getD 0 0 = 48)) (h4 : s.all dgOk = true) : numOk s = true := by
  simp only [numOk, Bool.and_eq_true, Bool.not_eq_true', decide_eq_false_iff_not, decide_eq_true_eq, Bool.and_eq_false_iff]
  refine ⟨⟨⟨h1, h2⟩, ?_⟩, h4⟩
  by_cases h5 : 1 < s.length
  · exact .inr fun h6 => h3 ⟨h5, h6⟩
  · exact .inl h5

theorem num_itoa {n : Int} (h0 : 0 ≤ n) (h1 : n ≤ 999999) : numOk (Lib.itoa n) = true ∧ numV (Lib.itoa n) = n ∧ (Lib.itoa n).all dgOk = true ∧ 1 ≤ (Lib.itoa n).length := by
  unfold Lib.itoa
  rw [if_neg (by omega)]
  obtain ⟨a, b, c, d, e, f⟩ := dec_facts 5 n.toNat (by omega)
  have hk : numOk (Lib.decDigits n.toNat) = true := by
    refine numOk_of (fun h => by rw [h] at d; exact absurd d (by decide)) c ?_ a
    rintro ⟨h2, h3⟩
    by_cases h4 : 0 < n.toNat
    · exact e h4 h3
    · have := f (by omega); omega
  exact ⟨hk, by unfold numV; rw [if_pos hk, b]; omega, a, d⟩

theorem itoa_num {s : List UInt8} (h : numOk s = true) : Lib.itoa (numV s) = s := by
  obtain ⟨h1, h2, h3, h4⟩ := numOk_in h
  obtain ⟨p, q⟩ := dec_back s.length s rfl h1 h4 h3
  unfold Lib.itoa numV
  rw [if_pos h, if_neg (by omega), q]

/-- What a text ends with. -/
theorem suf_snoc (l : List UInt8) (c d : UInt8) : sufS (l ++ [c]) [d] = decide (c = d) := by
  unfold sufS
  have e : (l ++ [c]).length - [d].length = l.length := by simp
  rw [e, List.drop_left]
  simp
theorem suf_nil (d : UInt8) : sufS [] [d] = false := by simp [sufS]
theorem pre_cons (l : List UInt8) (c d : UInt8) : preS (c :: l) [d] = decide (c = d) := by
  simp [preS]
theorem pre_nil (d : UInt8) : preS [] [d] = false := by simp [preS]
theorem suf_iff {l : List UInt8} {d : UInt8} (h : sufS l [d] = true) : l = l.take (l.length - 1) ++ [d] := by
  simp only [sufS, Bool.and_eq_true, decide_eq_true_eq, List.length_singleton] at h
  conv => lhs; rw [← List.take_append_drop (l.length - 1) l, h.2]
theorem pre_iff {l : List UInt8} {d : UInt8} (h : preS l [d] = true) : l = d :: l.drop 1 := by
  simp only [preS, Bool.and_eq_true, decide_eq_true_eq, List.length_singleton] at h
  conv => lhs; rw [← List.take_append_drop 1 l, h.2]
  rfl
theorem cutX_snoc (l : List UInt8) (c : UInt8) : cutX (l ++ [c]) = if c = 88 then l else l ++ [c] := by
  unfold cutX
  rw [suf_snoc]
  by_cases h : c = 88 <;> simp [h]

theorem numOk_no {s : List UInt8} {c : UInt8} (h : c ∈ s) (hc : dgOk c = false) : numOk s = false := by
  cases hn : numOk s with
  | false => rfl
  | true =>
    have := (numOk_in hn).2.2.2
    rw [List.all_eq_true] at this
    rw [this c h] at hc; cases hc
theorem numOk_nil : numOk [] = false := by rfl

/-- A middle part that ends otherwise has no form. -/
theorem mid_end (r : List UInt8) {c : UInt8} (h1 : c ≠ 84) (h2 : c ≠ 76) (hc : dgOk c = false) : midS (r ++ [c]) = (0, 0, 0) := by
  have hN : ¬ r ++ [c] = [78, 84] := fun h => by
    have e : r ++ [c] = [78] ++ [84] := h
    have := (List.append_inj' e rfl).2
    simp at this; exact h1 this
  have hd : numOk ((r ++ [c]).drop 1) = false := by
    cases r with
    | nil => exact numOk_nil
    | cons a r => exact numOk_no (c := c) (by simp) hc
  have hs : sufS (r ++ [c]) [76] = false := by rw [suf_snoc]; simp [h2]
  unfold midS
  simp only [hN, hd, hs, if_false, Bool.false_eq_true]
  split <;> try rfl
  split <;> rfl

/-- A middle part that begins otherwise has none. -/
theorem mid_start (r : List UInt8) {c : UInt8} (h1 : c ≠ 78) (h2 : c ≠ 75) (h3 : c ≠ 68) (h4 : c ≠ 76) (hc : dgOk c = false) : midS (c :: r) = (0, 0, 0) := by
  have hN : ¬ c :: r = [78, 84] := fun h => by
    injection h with a _; exact h1 a
  have hK : preS (c :: r) [75] = false := by rw [pre_cons]; simp [h2]
  have hD : preS (c :: r) [68] = false := by rw [pre_cons]; simp [h3]
  unfold midS
  simp only [hN, hK, hD, if_false, Bool.false_eq_true]
  split
  · rename_i hs
    have hn : numOk (List.take ((c :: r).length - 1) (c :: r)) = false := by
      cases r with
      | nil =>
        have := suf_iff hs
        simp at this; exact absurd this h4
      | cons a r => exact numOk_no (c := c) (by simp) hc
    rw [hn]; rfl
  · rfl

/-- The middle part that tells a kind, an amount and a flat. -/
theorem mid_body {k a f : Int} (h : codeE 0 k a f = 0) : midS (bodyS k a f) = (k, a, f) ∧ bodyS k a f ≠ [] ∧ schQ (bodyS k a f) = false ∧ sufS (bodyS k a f) [88] = false := by
  have hc := code_in h
  have hi := num_itoa (n := a / 1000) (by omega) (by omega)
  have hj := num_itoa (n := f) (by omega) (by omega)
  have hk : k = 1 ∨ k = 2 ∨ k = 3 ∨ k = 4 := by omega
  have hea : a / 1000 * 1000 = a := by omega
  rcases hk with rfl | rfl | rfl | rfl
  · have ef : f = 0 := by omega
    have eb : bodyS 1 a f = Lib.itoa (a / 1000) ++ [76] := by simp [bodyS]
    rw [eb]
    generalize Lib.itoa (a / 1000) = q at *
    obtain ⟨q1, q2, q3, q4⟩ := hi
    match q, q4 with
    | c :: r, _ =>
      have hcc : 48 ≤ c.toNat ∧ c.toNat ≤ 57 := dgOk_iff.1 (by simp only [List.all_cons, Bool.and_eq_true] at q3; exact q3.1)
      have n1 : c ≠ 78 := fun h => by rw [h] at hcc; revert hcc; decide
      have n2 : c ≠ 75 := fun h => by rw [h] at hcc; revert hcc; decide
      have n3 : c ≠ 68 := fun h => by rw [h] at hcc; revert hcc; decide
      have e1 : sufS (c :: r ++ [76]) [76] = true := by rw [suf_snoc]; rfl
      have e2 : List.take ((c :: r ++ [76]).length - 1) (c :: r ++ [76]) = c :: r := by
        have : (c :: r ++ [76]).length - 1 = (c :: r).length := by simp
        rw [this, List.take_left]
      have e3 : preS (c :: r ++ [76]) [75] = false := by rw [List.cons_append, pre_cons]; simp [n2]
      have e4 : preS (c :: r ++ [76]) [68] = false := by rw [List.cons_append, pre_cons]; simp [n3]
      have e5 : ¬ c :: r ++ [76] = [78, 84] := fun h => by rw [List.cons_append] at h; injection h with a _; exact n1 a
      refine ⟨?_, by simp, ?_, by rw [suf_snoc]; rfl⟩
      · unfold midS
        simp only [e1, e2, e3, e4, e5, q1, q2, if_true, if_false, Bool.false_eq_true]
        rw [hea, ef]
      · have : ¬ 80 ≤ c.toNat := by omega
        simp [schQ, this]
  · have ef : f = 0 := by omega
    have eb : bodyS 2 a f = 75 :: Lib.itoa (a / 1000) := by simp [bodyS]
    rw [eb]
    generalize Lib.itoa (a / 1000) = q at *
    obtain ⟨q1, q2, q3, q4⟩ := hi
    have e1 : preS (75 :: q) [75] = true := by rw [pre_cons]; rfl
    have e5 : ¬ 75 :: q = [78, 84] := fun h => by injection h with a _; exact absurd a (by decide)
    refine ⟨?_, by simp, by simp [schQ], ?_⟩
    · unfold midS
      simp only [e1, e5, List.drop_succ_cons, List.drop_zero, q1, q2, if_true, if_false]
      rw [hea, ef]
    · cases hs : sufS (75 :: q) [88] with
      | false => rfl
      | true =>
        exfalso
        have := suf_iff hs
        have hm : (88 : UInt8) ∈ 75 :: q := by rw [this]; simp
        have hm' : (88 : UInt8) ∈ q := by simpa using hm
        rw [List.all_eq_true] at q3
        exact absurd (q3 _ hm') (by decide)
  · have ea : a = 0 := by omega
    have eb : bodyS 3 a f = 68 :: Lib.itoa f := by simp [bodyS]
    rw [eb]
    generalize Lib.itoa f = q at *
    obtain ⟨q1, q2, q3, q4⟩ := hj
    have e1 : preS (68 :: q) [68] = true := by rw [pre_cons]; rfl
    have e2 : preS (68 :: q) [75] = false := by rw [pre_cons]; rfl
    have e5 : ¬ 68 :: q = [78, 84] := fun h => by injection h with a _; exact absurd a (by decide)
    refine ⟨?_, by simp, by simp [schQ], ?_⟩
    · unfold midS
      simp only [e1, e2, e5, List.drop_succ_cons, List.drop_zero, q1, q2, if_true, if_false, Bool.false_eq_true]
      rw [ea]
    · cases hs : sufS (68 :: q) [88] with
      | false => rfl
      | true =>
        exfalso
        have := suf_iff hs
        have hm : (88 : UInt8) ∈ 68 :: q := by rw [this]; simp
        have hm' : (88 : UInt8) ∈ q := by simpa using hm
        rw [List.all_eq_true] at q3
        exact absurd (q3 _ hm') (by decide)
  · have ea : a = 0 := by omega
    have ef : f = 0 := by omega
    subst ea ef
    decide

theorem codeE_zero {s k a f : Int} (h : codeE s k a f = 0) : codeE 0 k a f = 0 := by
  have hc := code_in h
  unfold codeE at h ⊢
  rw [if_neg (by omega)] at h ⊢
  exact h
theorem codeE_sch {s t k a f : Int} (h : codeE s k a f = 0) (ht : 0 ≤ t ∧ t ≤ 7) : codeE t k a f = 0 := by
  have hc := code_in h
  unfold codeE at h ⊢
  rw [if_neg (by omega)] at h ⊢
  exact h

theorem sch_head {s : Int} (h : 0 ≤ s ∧ s ≤ 7) {b : List UInt8} (hb : schQ b = false) : restS (headS s ++ b) = b ∧ schV (headS s ++ b) = s := by
  by_cases h0 : 0 < s
  · have e : headS s = [UInt8.ofNat (79 + s).toNat] := by simp [headS, h0]
    have ec : (UInt8.ofNat (79 + s).toNat).toNat = (79 + s).toNat := by rw [UInt8.toNat_ofNat']; omega
    rw [e]
    generalize UInt8.ofNat (79 + s).toNat = c at *
    have hq : schQ ([c] ++ b) = true := by
      simp only [schQ, List.singleton_append, List.getD_cons_zero, Bool.and_eq_true, decide_eq_true_eq]
      refine ⟨⟨by simp, by omega⟩, by omega⟩
    unfold restS schV
    rw [if_pos hq, if_pos hq]
    refine ⟨by simp, ?_⟩
    rw [List.singleton_append, List.getD_cons_zero]; omega
  · have e : headS s = [] := by simp [headS, h0]
    rw [e, List.nil_append]
    unfold restS schV
    rw [hb]
    exact ⟨rfl, by simp; omega⟩

/-- A code that is written is read as that code. -/
theorem code_back {s k a f : Int} {al : Bool} (h : codeE s k a f = 0) : parE (codeS s k a f al) = 0 ∧ parV (codeS s k a f al) = (s, k, a, f, al) := by
  have hc := code_in h
  obtain ⟨b1, b2, b3, b4⟩ := mid_body (codeE_zero h)
  have eT : codeS s k a f al = headS s ++ (bodyS k a f ++ (if al = true then [88] else [])) := by
    unfold codeS; rw [if_pos h, List.append_assoc]
  have hq : schQ (bodyS k a f ++ (if al = true then [88] else [])) = false := by
    generalize bodyS k a f = b at *
    match b, b2 with
    | c :: r, _ => simpa [schQ] using b3
  obtain ⟨r1, r2⟩ := sch_head (s := s) ⟨hc.1, hc.2.1⟩ hq
  have hx : cutX (bodyS k a f ++ (if al = true then [88] else [])) = bodyS k a f ∧ sufS (bodyS k a f ++ (if al = true then [88] else [])) [88] = al := by
    cases al with
    | true => simp only [if_true]; rw [cutX_snoc, suf_snoc]; exact ⟨rfl, rfl⟩
    | false =>
      simp only [Bool.false_eq_true, if_false, List.append_nil]
      refine ⟨?_, b4⟩
      unfold cutX; rw [b4]; rfl
  rw [eT]
  have hE : parE (headS s ++ (bodyS k a f ++ (if al = true then [88] else []))) = 0 := by
    unfold parE
    rw [r1, r2, hx.1, b1]
    have hk : ¬ k = 0 := by omega
    simp only [hk, if_false, h]
  refine ⟨hE, ?_⟩
  unfold parV
  rw [if_pos hE, r1, r2, hx.1, b1, hx.2]

/-- A middle part that has a form is the one that tells its kind, amount and flat. -/
theorem mid_form {m : List UInt8} (h : (midS m).1 ≠ 0) : m = bodyS (midS m).1 (midS m).2.1 (midS m).2.2 := by
  unfold midS at h ⊢
  split at h
  · rename_i h1
    simp only [h1, if_true]
    rfl
  · rename_i h1
    simp only [h1, if_false]
    split at h
    · rename_i h2
      simp only [h2, if_true]
      split at h
      · rename_i h3
        simp only [h3, if_true]
        have e : numV (List.drop 1 m) * 1000 / 1000 = numV (List.drop 1 m) := Int.mul_ediv_cancel _ (by decide)
        simp only [bodyS, e, itoa_num h3]
        exact pre_iff h2
      · exact absurd rfl h
    · rename_i h2
      simp only [h2, if_false, Bool.false_eq_true]
      split at h
      · rename_i h3
        simp only [h3, if_true]
        split at h
        · rename_i h4
          simp only [h4, if_true]
          simp only [bodyS, itoa_num h4]
          exact pre_iff h3
        · exact absurd rfl h
      · rename_i h3
        simp only [h3, if_false, Bool.false_eq_true]
        split at h
        · rename_i h4
          simp only [h4, if_true]
          split at h
          · rename_i h5
            simp only [h5, if_true]
            have e : numV (List.take (m.length - 1) m) * 1000 / 1000 = numV (List.take (m.length - 1) m) := Int.mul_ediv_cancel _ (by decide)
            simp only [bodyS, e, itoa_num h5]
            exact suf_iff h4
          · exact absurd rfl h
        · exact absurd rfl h

theorem rest_of (t : List UInt8) : t = headS (schV t) ++ restS t ∧ 0 ≤ schV t ∧ schV t ≤ 7 := by
  unfold schV restS
  cases hq : schQ t with
  | false => exact ⟨by simp [headS], by simp, by simp⟩
  | true =>
    match t with
    | [] => exact absurd hq (by decide)
    | c :: r =>
      simp only [schQ, Bool.and_eq_true, decide_eq_true_eq, List.getD_cons_zero] at hq
      simp only [if_true, List.getD_cons_zero, List.drop_succ_cons, List.drop_zero]
      refine ⟨?_, by omega, by omega⟩
      have h0 : 0 < (c.toNat : Int) - 79 := by omega
      have e : (79 + ((c.toNat : Int) - 79)).toNat = c.toNat := by omega
      simp only [headS, h0, if_true, e, u8_back (c := c) rfl, List.singleton_append]

theorem cut_of (r : List UInt8) : r = cutX r ++ (if sufS r [88] = true then [88] else []) := by
  unfold cutX
  split
  · exact suf_iff ‹_›
  · simp

theorem par_in {t : List UInt8} (h : parE t = 0) : (midS (cutX (restS t))).1 ≠ 0 ∧ codeE (schV t) (midS (cutX (restS t))).1 (midS (cutX (restS t))).2.1 (midS (cutX (restS t))).2.2 = 0 ∧ parV t = (schV t, (midS (cutX (restS t))).1, (midS (cutX (restS t))).2.1, (midS (cutX (restS t))).2.2, sufS (restS t) [88]) := by
  have h' := h
  unfold parE at h'
  split at h'
  · cases h'
  · rename_i h1
    exact ⟨h1, h', by unfold parV; rw [if_pos h]⟩

/-- A text that is read as a code is the one as which that code is written. -/
theorem par_back {t : List UInt8} (h : parE t = 0) : codeS (parV t).1 (parV t).2.1 (parV t).2.2.1 (parV t).2.2.2.1 (parV t).2.2.2.2 = t := by
  obtain ⟨h1, h2, h3⟩ := par_in h
  rw [h3]
  have e := mid_form h1
  have e2 := cut_of (restS t)
  have e3 := (rest_of t).1
  simp only
  unfold codeS
  rw [if_pos h2, ← e, List.append_assoc, ← e2, ← e3]

theorem rest_snoc {t : List UInt8} (h : t ≠ []) (c : UInt8) : restS (t ++ [c]) = restS t ++ [c] ∧ schV (t ++ [c]) = schV t := by
  match t, h with
  | a :: r, _ =>
    have e : schQ (a :: r ++ [c]) = schQ (a :: r) := by simp [schQ]
    unfold restS schV
    rw [e]
    cases schQ (a :: r) <;> simp

theorem par_ne {t : List UInt8} (h : parE t = 0) : t ≠ [] ∧ restS t ≠ [] ∧ cutX (restS t) ≠ [] := by
  have h1 := (par_in h).1
  have hm : cutX (restS t) ≠ [] := by
    intro e; rw [e] at h1; exact h1 (by decide)
  have hr : restS t ≠ [] := by
    intro e; rw [e] at hm; exact hm (by decide)
  refine ⟨?_, hr, hm⟩
  intro e; rw [e] at hr; exact hr (by decide)

theorem par_no {t : List UInt8} (h : midS (cutX (restS t)) = (0, 0, 0)) : parE t = 5 := by unfold parE; rw [h]; rfl

theorem suf_rest {t : List UInt8} (h : restS t ≠ []) (d : UInt8) : sufS t [d] = sufS (restS t) [d] := by
  obtain ⟨l, c, e⟩ : ∃ l c, restS t = l ++ [c] := ⟨_, _, (List.dropLast_concat_getLast h).symm⟩
  have e3 := (rest_of t).1
  rw [e] at e3
  rw [e, suf_snoc]
  conv => lhs; rw [e3, ← List.append_assoc]
  rw [suf_snoc]

/-- A sign behind a code: there may be one alone. -/
theorem par_X {t : List UInt8} (h : parE t = 0) : (sufS t [88] = true → parE (t ++ [88]) = 5) ∧ (sufS t [88] = false → parE (t ++ [88]) = 0) := by
  obtain ⟨n1, n2, n3⟩ := par_ne h
  obtain ⟨e1, e2⟩ := rest_snoc n1 88
  obtain ⟨p1, p2, p3⟩ := par_in h
  rw [suf_rest n2]
  refine ⟨fun hs => par_no ?_, fun hs => ?_⟩
  · rw [e1, cutX_snoc, if_pos rfl, suf_iff hs]
    exact mid_end _ (by decide) (by decide) (by decide)
  · have e3 : cutX (restS t) = restS t := by unfold cutX; rw [hs]; rfl
    rw [e3] at p1 p2
    unfold parE
    rw [e1, e2, cutX_snoc, if_pos rfl, if_neg p1]
    exact p2

theorem par_sp {t : List UInt8} (h : t ≠ []) : parE (t ++ [32]) = 5 := by
  obtain ⟨e1, e2⟩ := rest_snoc h 32
  refine par_no ?_
  rw [e1, cutX_snoc, if_neg (by decide)]
  exact mid_end _ (by decide) (by decide) (by decide)

theorem par_P {t : List UInt8} (h : parE t = 0) : (schQ t = true → parE (80 :: t) = 5) ∧ (schQ t = false → parE (80 :: t) = 0) := by
  have hq : schQ (80 :: t) = true := by simp [schQ]
  have e1 : restS (80 :: t) = t := by unfold restS; rw [if_pos hq]; rfl
  have e2 : schV (80 :: t) = 1 := by unfold schV; rw [if_pos hq]; rfl
  obtain ⟨n1, n2, n3⟩ := par_ne h
  obtain ⟨p1, p2, p3⟩ := par_in h
  refine ⟨fun hs => par_no ?_, fun hs => ?_⟩
  · rw [e1]
    match t, n1 with
    | c :: r, _ =>
      simp only [schQ, Bool.and_eq_true, decide_eq_true_eq, List.getD_cons_zero] at hs
      have hc : dgOk c = false := by
        cases hd : dgOk c with
        | false => rfl
        | true => rw [dgOk_iff] at hd; omega
      have hne : ∀ k : Nat, ¬ (80 ≤ k ∧ k ≤ 86) → ∀ d : UInt8, d.toNat = k → c ≠ d := fun k hk d hd he => hk (by rw [he] at hs; omega)
      have hm : ∀ r', midS (c :: r') = (0, 0, 0) := fun r' => mid_start r' (hne 78 (by decide) _ rfl) (hne 75 (by decide) _ rfl) (hne 68 (by decide) _ rfl) (hne 76 (by decide) _ rfl) hc
      cases hx : sufS (c :: r) [88] with
      | false => unfold cutX; rw [hx]; exact hm r
      | true =>
        have e3 := suf_iff hx
        cases r with
        | nil =>
          have hc88 : c = 88 := by simpa using e3
          exact absurd hc88 (hne 88 (by decide) _ rfl)
        | cons b r =>
          have e4 : List.take ((c :: b :: r).length - 1) (c :: b :: r) = c :: List.take r.length (b :: r) := by simp
          unfold cutX
          rw [hx, if_pos rfl, e4]
          exact hm _
  · have e3 : restS t = t := by unfold restS; rw [hs]; rfl
    rw [e3] at p1 p2
    unfold parE
    rw [e1, e2, if_neg p1]
    exact codeE_sch p2 (by decide)

theorem par_cases (t : List UInt8) : parE t = 0 ∨ parE t = 5 ∨ parE t = 80 := by
  unfold parE
  split
  · exact .inr (.inl rfl)
  · have hs := rest_of t
    unfold codeE
    rw [if_neg (by omega)]
    split
    · exact .inr (.inr rfl)
    · exact .inl rfl
end Go.Rx

