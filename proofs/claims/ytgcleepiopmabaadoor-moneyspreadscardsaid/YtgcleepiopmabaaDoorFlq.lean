/- 64-bit floats: how near a written number is; products, quotients and differences of what is nearly whole. -/
import Derived.Test.YtgcleepiopmabaaDoorFlt
namespace Go.Rx
open Ieee
set_option exponentiation.threshold 3000
set_option maxRecDepth 20000

theorem auxP1 (Y mag g P : Nat) (c1 : 2 * Y ≤ 2 * mag + g) (h : g * P ≤ mag) : Y * (2 * P) ≤ mag * (2 * P) + mag :=
  calc Y * (2 * P) = 2 * Y * P := by rw [← Nat.mul_assoc, Nat.mul_comm Y 2]
    _ ≤ (2 * mag + g) * P := Nat.mul_le_mul_right _ c1
    _ = mag * (2 * P) + g * P := by rw [Nat.add_mul, ← Nat.mul_assoc mag 2 P, Nat.mul_comm mag 2]
    _ ≤ _ := Nat.add_le_add_left h _
theorem auxP2 (Y mag g P : Nat) (c1 : 2 * mag ≤ 2 * Y + g) (h : g * P ≤ mag) : mag * (2 * P) ≤ Y * (2 * P) + mag :=
  calc mag * (2 * P) = 2 * mag * P := by rw [← Nat.mul_assoc, Nat.mul_comm mag 2]
    _ ≤ (2 * Y + g) * P := Nat.mul_le_mul_right _ c1
    _ = Y * (2 * P) + g * P := by rw [Nat.add_mul, ← Nat.mul_assoc Y 2 P, Nat.mul_comm Y 2]
    _ ≤ _ := Nat.add_le_add_left h _
theorem aux1 (Y mag g : Nat) (c1 : 2 * Y ≤ 2 * mag + g) (h : g * 2 ^ 52 ≤ mag) : Y * 2 ^ 53 ≤ mag * 2 ^ 53 + mag := auxP1 Y mag g (2 ^ 52) c1 h
theorem aux2 (Y mag g : Nat) (c1 : 2 * mag ≤ 2 * Y + g) (h : g * 2 ^ 52 ≤ mag) : mag * 2 ^ 53 ≤ Y * 2 ^ 53 + mag := auxP2 Y mag g (2 ^ 52) c1 h
theorem cut_near (neg : Bool) (n d : Nat) (hd : d ≤ n.log2 + 2) : 2 * (Toward.even.cut neg n d * 2 ^ d) ≤ 2 * n + 2 ^ d ∧ 2 * n ≤ 2 * (Toward.even.cut neg n d * 2 ^ d) + 2 ^ d ∧ n / 2 ^ d ≤ Toward.even.cut neg n d ∧ Toward.even.cut neg n d ≤ n / 2 ^ d + 1 := by
  have hg : 1 <<< min d (n.log2 + 2) = 2 ^ d := by rw [Nat.min_eq_left hd, Nat.shiftLeft_eq, Nat.one_mul]
  unfold Toward.cut
  dsimp only
  rw [hg]
  have hp : 0 < 2 ^ d := Nat.two_pow_pos d
  generalize 2 ^ d = g at *
  have e := Nat.div_add_mod n g
  have hl := Nat.mod_lt n hp
  rw [Nat.mul_comm] at e
  generalize n / g = low at *
  generalize n % g = rest at *
  by_cases h : (decide (g < 2 * rest) || (g == 2 * rest && low % 2 == 1)) = true
  · rw [h]
    simp only [Bool.or_eq_true, decide_eq_true_eq, Bool.and_eq_true, beq_iff_eq] at h
    have : (low + true.toNat) * g = low * g + g := by show (low + 1) * g = _; rw [Nat.add_mul, Nat.one_mul]
    rw [this]
    refine ⟨by omega, by omega, Nat.le_add_right _ _, Nat.le_refl _⟩
  · rw [Bool.not_eq_true] at h
    rw [h]
    simp only [Bool.or_eq_false_iff, decide_eq_false_iff_not] at h
    have : (low + false.toNat) * g = low * g := rfl
    rw [this]
    exact ⟨by omega, by omega, Nat.le_refl _, Nat.le_succ _⟩

/-- A rung of a place, and what is kept there. -/
theorem read_rung (s : Bool) (K t : Nat) (hK : K ≤ 2 ^ 53) (ht : t ≤ 2040) (h0 : K < 2 ^ 52 → t = 0) : ∃ m p, Ieee.double.read (Ieee.double.word s (t * 2 ^ 52 + K)) = Datum.number s m (-1074 + (p : Nat)) ∧ m * 2 ^ p = K * 2 ^ t ∧ p ≤ t + 1 := by
  rw [read_word s _ (by omega)]
  by_cases h : K < 2 ^ 52
  · have := h0 h
    subst this
    rw [if_pos (by omega)]
    exact ⟨K, 0, by simp, by simp, by omega⟩
  · rw [if_neg (by omega)]
    rcases Nat.lt_or_ge K (2 ^ 53) with h1 | h1
    · refine ⟨2 ^ 52 + (t * 2 ^ 52 + K) % 2 ^ 52, t, ?_, ?_, by omega⟩
      · have : (t * 2 ^ 52 + K) / 2 ^ 52 - 1 = t := by omega
        rw [this]
      · have : 2 ^ 52 + (t * 2 ^ 52 + K) % 2 ^ 52 = K := by omega
        rw [this]
    · have e : K = 2 ^ 53 := by omega
      refine ⟨2 ^ 52 + (t * 2 ^ 52 + K) % 2 ^ 52, t + 1, ?_, ?_, by omega⟩
      · have : (t * 2 ^ 52 + K) / 2 ^ 52 - 1 = t + 1 := by omega
        rw [this]
      · have : 2 ^ 52 + (t * 2 ^ 52 + K) % 2 ^ 52 = 2 ^ 52 := by omega
        rw [this, e]
        have h2 : 2 ^ (t + 1) = 2 ^ t * 2 := Nat.pow_succ ..
        rw [h2]
        generalize 2 ^ t = T
        omega
/-- A written number is near. -/
theorem near_write (s : Bool) (mag : Nat) (place : Int) (w : Nat) (h0 : mag ≠ 0) (hhi : place + mag.log2 ≤ 900) (hlo : -1074 ≤ place ∨ -1022 ≤ place + mag.log2) (hw : 0 ≤ place + w) (hw2 : 1074 ≤ w) :
    ∃ m p, Ieee.double.read (Ieee.double.write (.number s mag place)) = .number s m p ∧ -1074 ≤ p ∧ p ≤ 1000 ∧
      m * 2 ^ (p + w).toNat * 2 ^ 53 ≤ mag * 2 ^ (place + w).toNat * 2 ^ 53 + mag * 2 ^ (place + w).toNat ∧ mag * 2 ^ (place + w).toNat * 2 ^ 53 ≤ m * 2 ^ (p + w).toNat * 2 ^ 53 + mag * 2 ^ (place + w).toNat := by
  show ∃ m p, Ieee.double.read (Ieee.double.nearest s mag place) = _ ∧ _
  unfold Format.nearest
  rw [if_neg h0]
  dsimp only
  have hl1 := Nat.log2_self_le h0
  have hl2 := @Nat.lt_log2_self mag
  generalize hL : mag.log2 = L at *
  have elast : max (place + (L : Int) - (Ieee.double.fractionBits : Int)) Ieee.double.leastPlace = max (place + (L : Int) - 52) (-1074) := rfl
  rw [elast]
  obtain ⟨t, ht⟩ : ∃ t : Nat, max (place + (L : Int) - 52) (-1074) = -1074 + (t : Int) := ⟨(max (place + (L : Int) - 52) (-1074) + 1074).toNat, by omega⟩
  rw [ht]
  have er : ((-1074 + (t : Int)) - Ieee.double.leastPlace).toNat = t := by rw [least_d]; omega
  rw [er, bin_d, inf_d]
  have ht2 : t ≤ 1922 := by omega
  by_cases hc : -1074 + (t : Int) ≤ place
  · -- nothing is dropped
    have e1 : ((-1074 + (t : Int)) - place).toNat = 0 := by omega
    obtain ⟨u, hu⟩ : ∃ u : Nat, place - (-1074 + (t : Int)) = u := ⟨(place - (-1074 + (t : Int))).toNat, by omega⟩
    rw [e1, cut0, hu, Int.toNat_natCast, Nat.shiftLeft_eq]
    have hLu : L + u ≤ 52 := by omega
    have hK : mag * 2 ^ u < 2 ^ 53 := by
      calc mag * 2 ^ u < 2 ^ (L + 1) * 2 ^ u := Nat.mul_lt_mul_of_pos_right hl2 (Nat.two_pow_pos u)
        _ = 2 ^ (L + 1 + u) := (Nat.pow_add 2 (L + 1) u).symm
        _ ≤ 2 ^ 53 := Nat.pow_le_pow_right (by decide) (by omega)
    have h0K : mag * 2 ^ u < 2 ^ 52 → t = 0 := fun hlt => by
      have h1 : 2 ^ (L + u) ≤ mag * 2 ^ u := by rw [Nat.pow_add]; exact Nat.mul_le_mul_right _ hl1
      have h2 : L + u < 52 := by
        rcases Nat.lt_or_ge (L + u) 52 with h | h
        · exact h
        · have := Nat.pow_le_pow_right (show 0 < 2 by decide) h
          omega
      omega
    obtain ⟨m, p, r1, r2, r3⟩ := read_rung s (mag * 2 ^ u) t (Nat.le_of_lt hK) (by omega) h0K
    rw [Nat.min_eq_left (by omega)]
    refine ⟨m, _, r1, by omega, by omega, ?_⟩
    have e2 : m * 2 ^ ((-1074 + (p : Int)) + w).toNat = mag * 2 ^ (place + w).toNat := by
      have ep : ((-1074 + (p : Int)) + w).toNat = p + (w - 1074) := by omega
      have eq : (place + w).toNat = u + t + (w - 1074) := by omega
      rw [ep, eq, Nat.pow_add, ← Nat.mul_assoc, r2, Nat.pow_add, Nat.pow_add]
      simp only [Nat.mul_assoc]
    rw [e2]
    exact ⟨Nat.le_add_right _ _, Nat.le_add_right _ _⟩
  · have hlast : place + (L : Int) - 52 = -1074 + (t : Int) := by omega
    obtain ⟨d, hd⟩ : ∃ d : Nat, (-1074 + (t : Int)) - place = d := ⟨((-1074 + (t : Int)) - place).toNat, by omega⟩
    have e1 : (place - (-1074 + (t : Int))).toNat = 0 := by omega
    rw [e1, hd, Int.toNat_natCast, Nat.shiftLeft_eq, Nat.pow_zero, Nat.mul_one]
    have hdL : d + 52 = L := by omega
    obtain ⟨c1, c2, c3, c4⟩ := cut_near s mag d (by rw [hL]; omega)
    have hp : 0 < 2 ^ d := Nat.two_pow_pos d
    have hm1 : 2 ^ 52 ≤ mag / 2 ^ d := by
      rw [Nat.le_div_iff_mul_le hp, ← Nat.pow_add, Nat.add_comm, hdL]; exact hl1
    have hm2 : mag / 2 ^ d < 2 ^ 53 := by
      rw [Nat.div_lt_iff_lt_mul hp, ← Nat.pow_add, show 53 + d = L + 1 by omega]; exact hl2
    have hdm : 2 ^ d * 2 ^ 52 ≤ mag := by rw [← Nat.pow_add, hdL]; exact hl1
    generalize Toward.even.cut s mag d = K at *
    obtain ⟨m, p, r1, r2, r3⟩ := read_rung s K t (Nat.le_trans c4 hm2) (Nat.le_trans ht2 (by decide)) (fun h => absurd (Nat.le_trans hm1 c3) (Nat.not_le.2 h))
    have hKm : t * 2 ^ 52 + K ≤ 2047 * 2 ^ 52 := by
      have h1 : K ≤ 2 ^ 53 := Nat.le_trans c4 hm2
      clear c1 c2 c3 c4 hm1 hm2 hdm r1 r2 hl1 hl2
      omega
    rw [Nat.min_eq_left hKm]
    refine ⟨m, _, r1, by omega, by omega, ?_⟩
    have e2 : m * 2 ^ ((-1074 + (p : Int)) + w).toNat = K * 2 ^ d * 2 ^ (place + w).toNat := by
      have ep : ((-1074 + (p : Int)) + w).toNat = p + (w - 1074) := by omega
      have eq : d + (place + w).toNat = t + (w - 1074) := by omega
      rw [ep, Nat.pow_add, ← Nat.mul_assoc, r2, Nat.mul_assoc, ← Nat.pow_add, ← eq, Nat.pow_add, ← Nat.mul_assoc]
    rw [e2]
    generalize 2 ^ (place + w).toNat = X
    generalize 2 ^ d = g at *
    have a1 : K * g * 2 ^ 53 ≤ mag * 2 ^ 53 + mag := aux1 _ _ _ c1 hdm
    have a2 : mag * 2 ^ 53 ≤ K * g * 2 ^ 53 + mag := aux2 _ _ _ c2 hdm
    constructor
    · calc K * g * X * 2 ^ 53 = K * g * 2 ^ 53 * X := by ac_rfl
        _ ≤ (mag * 2 ^ 53 + mag) * X := Nat.mul_le_mul_right _ a1
        _ = mag * X * 2 ^ 53 + mag * X := by rw [Nat.add_mul]; congr 1; ac_rfl
    · calc mag * X * 2 ^ 53 = mag * 2 ^ 53 * X := by ac_rfl
        _ ≤ (K * g * 2 ^ 53 + mag) * X := Nat.mul_le_mul_right _ a2
        _ = K * g * X * 2 ^ 53 + mag * X := by rw [Nat.add_mul]; congr 1; ac_rfl

/-- a is b but for e parts in 2^53. -/
def NR (e a b : Nat) : Prop := a * 2 ^ 53 ≤ b * 2 ^ 53 + e * b ∧ b * 2 ^ 53 ≤ a * 2 ^ 53 + e * b
theorem NR.scale {e a b : Nat} (h : NR e a b) (c : Nat) : NR e (a * c) (b * c) := by
  unfold NR at *
  generalize 2 ^ 53 = P at *
  constructor
  · calc a * c * P = a * P * c := by ac_rfl
      _ ≤ (b * P + e * b) * c := Nat.mul_le_mul_right _ h.1
      _ = b * c * P + e * (b * c) := by rw [Nat.add_mul]; congr 1 <;> ac_rfl
  · calc b * c * P = b * P * c := by ac_rfl
      _ ≤ (a * P + e * b) * c := Nat.mul_le_mul_right _ h.2
      _ = a * c * P + e * (b * c) := by rw [Nat.add_mul]; congr 1 <;> ac_rfl
theorem NR.unscale {e a b c : Nat} (hc : 0 < c) (h : NR e (a * c) (b * c)) : NR e a b := by
  unfold NR at *
  generalize 2 ^ 53 = P at *
  constructor
  · refine Nat.le_of_mul_le_mul_right ?_ hc
    calc a * P * c = a * c * P := by ac_rfl
      _ ≤ b * c * P + e * (b * c) := h.1
      _ = (b * P + e * b) * c := by rw [Nat.add_mul]; congr 1 <;> ac_rfl
  · refine Nat.le_of_mul_le_mul_right ?_ hc
    calc b * P * c = b * c * P := by ac_rfl
      _ ≤ a * c * P + e * (b * c) := h.2
      _ = (a * P + e * b) * c := by rw [Nat.add_mul]; congr 1 <;> ac_rfl
theorem NR.trans {e f a b c : Nat} (h1 : NR e a b) (h2 : NR f b c) (hf : f ≤ 2 ^ 53) : NR (2 * e + f) a c := by
  unfold NR at *
  generalize 2 ^ 53 = P at *
  by_cases hP : P = 0
  · subst hP
    have : f = 0 := by omega
    subst this
    simp only [Nat.mul_zero, Nat.zero_add, Nat.zero_mul, Nat.zero_le, and_self]
  have hb : b ≤ 2 * c := by
    have h3 : b * P ≤ 2 * c * P := by
      have := Nat.mul_le_mul_right c hf
      calc b * P ≤ c * P + f * c := h2.1
        _ ≤ c * P + P * c := Nat.add_le_add_left this _
        _ = 2 * c * P := by rw [Nat.mul_comm P c, Nat.mul_assoc 2]; omega
    exact Nat.le_of_mul_le_mul_right h3 (Nat.pos_of_ne_zero hP)
  have heb : e * b ≤ 2 * e * c := by
    calc e * b ≤ e * (2 * c) := Nat.mul_le_mul_left _ hb
      _ = 2 * e * c := by ac_rfl
  have hd : (2 * e + f) * c = 2 * e * c + f * c := Nat.add_mul ..
  rw [hd]
  omega
/-- Read as a number, as a multiple of the least. -/
def RV (x : Nat) (s : Bool) (A : Nat) : Prop := ∃ m p, Ieee.double.read x = .number s m p ∧ -1074 ≤ p ∧ p ≤ 1000 ∧ m * 2 ^ (p + 1074).toNat = A
theorem rv_write (s : Bool) (mag : Nat) (place : Int) (k B : Nat) (h0 : mag ≠ 0) (hhi : place + mag.log2 ≤ 900) (hlo : -1074 ≤ place ∨ -1022 ≤ place + mag.log2) (hw : 0 ≤ place + 1074 + k) (hB : mag * 2 ^ (place + 1074 + k).toNat = B) :
    ∃ A, RV (Ieee.double.write (.number s mag place)) s A ∧ NR 1 (A * 2 ^ k) B := by
  obtain ⟨m, p, h1, h2, h3, h4, h5⟩ := near_write s mag place (1074 + k) h0 hhi hlo (by omega) (by omega)
  refine ⟨m * 2 ^ (p + 1074).toNat, ⟨m, p, h1, h2, h3, rfl⟩, ?_⟩
  have e : (place + ((1074 + k : Nat) : Int)).toNat = (place + 1074 + k).toNat := by congr 1; omega
  have e2 : (p + ((1074 + k : Nat) : Int)).toNat = (p + 1074).toNat + k := by omega
  rw [e, hB] at h4 h5
  rw [e2, Nat.pow_add, ← Nat.mul_assoc] at h4 h5
  unfold NR
  rw [Nat.one_mul]
  exact ⟨h4, h5⟩
theorem fv_rv {x : Nat} {n : Int} (h : FV x n) : ∃ s m p, Ieee.double.read x = .number s m p ∧ -1074 ≤ p ∧ m * 2 ^ (p + 1074).toNat = n.natAbs * 2 ^ 1074 ∧ (n ≠ 0 → (s = true ↔ n < 0)) := by
  obtain ⟨s, m, p, h1, h2, h3⟩ := h
  exact ⟨s, m, p, h1, h2, signed_abs_eq h3, fun hn => signed_sign h3 hn⟩
theorem log2_of {m u N : Nat} (h : m * 2 ^ u = N * 2 ^ 1074) (hN : N ≠ 0) : m ≠ 0 ∧ m.log2 + u = N.log2 + 1074 := by
  have hm : m ≠ 0 := fun e => by
    subst e
    rw [Nat.zero_mul] at h
    rcases Nat.mul_eq_zero.1 h.symm with h | h
    · exact hN h
    · exact absurd h (Nat.ne_of_gt (Nat.two_pow_pos 1074))
  exact ⟨hm, by rw [← log2_mul_pow hm, ← log2_mul_pow hN, h]⟩
theorem log2_le {N k : Nat} (h : N < 2 ^ (k + 1)) : N.log2 ≤ k := by
  by_cases h0 : N = 0
  · subst h0; simp
  · rcases Nat.lt_or_ge k N.log2 with h1 | h1
    · have := Nat.log2_self_le h0
      have := Nat.pow_le_pow_right (show 0 < 2 by decide) h1
      omega
    · exact h1
/-- A product of whole numbers. -/
theorem rv_mul {x y : Nat} {a b : Int} (hx : FV x a) (hy : FV y b) (ha : a ≠ 0) (hb : b ≠ 0) (hn : (a.natAbs * b.natAbs).log2 ≤ 800) :
    ∃ r A, floatBits .mul .f64 x y = some r ∧ RV r (decide (a < 0) ^^ decide (b < 0)) A ∧ NR 1 A (a.natAbs * b.natAbs * 2 ^ 1074) := by
  obtain ⟨s, m, i, h1, h2, h3, h4⟩ := fv_rv hx
  obtain ⟨t, n, j, g1, g2, g3, g4⟩ := fv_rv hy
  have es : s = decide (a < 0) := by have := h4 ha; cases s <;> simp_all
  have et : t = decide (b < 0) := by have := g4 hb; cases t <;> simp_all
  have ha' : a.natAbs ≠ 0 := by omega
  have hb' : b.natAbs ≠ 0 := by omega
  obtain ⟨m0, lm⟩ := log2_of h3 ha'
  obtain ⟨n0, ln⟩ := log2_of g3 hb'
  have hmn : m * n ≠ 0 := Nat.mul_ne_zero m0 n0
  have hB : m * n * 2 ^ (i + j + 1074 + (1074 : Nat)).toNat = a.natAbs * b.natAbs * 2 ^ 1074 * 2 ^ 1074 := by
    have e : (i + j + 1074 + (1074 : Nat)).toNat = (i + 1074).toNat + (j + 1074).toNat := by omega
    rw [e, Nat.pow_add]
    generalize 2 ^ 1074 = X at h3 g3 ⊢
    calc m * n * (2 ^ (i + 1074).toNat * 2 ^ (j + 1074).toNat) = (m * 2 ^ (i + 1074).toNat) * (n * 2 ^ (j + 1074).toNat) := by ac_rfl
      _ = a.natAbs * b.natAbs * X * X := by rw [h3, g3]; ac_rfl
  have hab : a.natAbs * b.natAbs ≠ 0 := Nat.mul_ne_zero ha' hb'
  have hl : ((m * n).log2 : Int) + (i + j) = (a.natAbs * b.natAbs).log2 := by
    have e : (i + j + 1074 + (1074 : Nat)).toNat + 0 = (i + j + 1074 + (1074 : Nat)).toNat := rfl
    have h5 := congrArg Nat.log2 hB
    rw [log2_mul_pow hmn, Nat.mul_assoc (a.natAbs * b.natAbs), ← Nat.pow_add, log2_mul_pow hab] at h5
    omega
  obtain ⟨A, r1, r2⟩ := rv_write (s ^^ t) (m * n) (i + j) 1074 _ hmn (by omega) (.inr (by omega)) (by omega) hB
  refine ⟨_, A, ?_, by rw [← es, ← et]; exact r1, r2.unscale (Nat.two_pow_pos 1074)⟩
  show ((Ieee.double.read x).product (Ieee.double.read y)).map Ieee.double.write = _
  rw [h1, g1]; rfl
theorem auxQ {q n r t D P : Nat} (hD : D = q * n + r) (hr : r < n) (ht : t = if r = 0 then 0 else 1) (hP : n * P ≤ D) : (2 * q + t) * n * P ≤ 2 * D * P + 2 * D ∧ 2 * D * P ≤ (2 * q + t) * n * P + 2 * D := by
  have e1 : (2 * q + t) * n = 2 * (q * n) + t * n := by rw [Nat.add_mul, Nat.mul_assoc]
  have h1 : (2 * q + t) * n ≤ 2 * D + n ∧ 2 * D ≤ (2 * q + t) * n + n := by
    rw [e1, hD]
    generalize q * n = X
    by_cases h : r = 0
    · rw [if_pos h] at ht; subst ht; omega
    · rw [if_neg h] at ht; subst ht; omega
  generalize (2 * q + t) * n = X at h1 ⊢
  have h2 := Nat.mul_le_mul_right P h1.1
  have h3 := Nat.mul_le_mul_right P h1.2
  rw [Nat.add_mul] at h2 h3
  omega
theorem acQ1 (Q X Y n : Nat) : Q * (X * Y) * n = Q * (n * X) * Y := by ac_rfl
theorem acQ2 (Q S U Y : Nat) : Q * (S * U) * Y = Q * S * (U * Y) := by ac_rfl
theorem acQ3 (m M P U : Nat) : 2 * (m * M) * (P * U) = m * P * (U * (M * 2)) := by ac_rfl
theorem sticky_eq (a : Nat) : (a != 0).toNat = if a = 0 then 0 else 1 := by
  by_cases h : a = 0
  · simp [h]
  · rw [if_neg h, bne_iff_ne.2 h]; rfl
set_option maxHeartbeats 2000000 in
/-- A quotient by a whole number. -/
theorem rv_div {x y A S : Nat} {s : Bool} (hx : RV x s A) (hy : FV y S) (hS : S ≠ 0) (hA : A ≠ 0) (hA1 : 1000 ≤ A.log2) (hA2 : A.log2 ≤ 1900) (hS2 : S.log2 ≤ 40) :
    ∃ r Q, floatBits .quo .f64 x y = some r ∧ RV r s Q ∧ NR 3 (Q * S) A := by
  obtain ⟨m, p, h1, h2, h3, h4⟩ := hx
  obtain ⟨t, n, j, g1, g2, g3, g4⟩ := fv_rv hy
  rw [Int.natAbs_natCast] at g3
  have et : t = false := by
    have := g4 (by omega)
    cases t
    · rfl
    · have := this.1 rfl; omega
  subst et
  obtain ⟨n0, ln⟩ := log2_of g3 hS
  have m0 : m ≠ 0 := fun e => by subst e; rw [Nat.zero_mul] at h4; exact hA h4.symm
  have lm : m.log2 + (p + 1074).toNat = A.log2 := by rw [← log2_mul_pow m0, h4]
  obtain ⟨more, hmore⟩ : ∃ k, k = 54 + n.log2 - m.log2 := ⟨_, rfl⟩
  have hm1 := Nat.log2_self_le m0
  have hm2 := @Nat.lt_log2_self m
  have hn1 := Nat.log2_self_le n0
  have hn2 := @Nat.lt_log2_self n
  obtain ⟨a, ha⟩ : ∃ a, a + n.log2 = m.log2 + more := ⟨m.log2 + more - n.log2, by omega⟩
  have ha54 : 54 ≤ a := by omega
  have hnp : 0 < n := Nat.pos_of_ne_zero n0
  have hD1 : 2 ^ (a + n.log2) ≤ m * 2 ^ more := by rw [ha, Nat.pow_add]; exact Nat.mul_le_mul_right _ hm1
  have hD2 : m * 2 ^ more < 2 ^ (a + n.log2 + 1) := by
    rw [ha, show m.log2 + more + 1 = m.log2 + 1 + more by omega, Nat.pow_add]
    exact Nat.mul_lt_mul_of_pos_right hm2 (Nat.two_pow_pos _)
  have hq1 : 2 ^ (a - 1) ≤ m * 2 ^ more / n := by
    rw [Nat.le_div_iff_mul_le hnp]
    calc 2 ^ (a - 1) * n ≤ 2 ^ (a - 1) * 2 ^ (n.log2 + 1) := Nat.mul_le_mul_left _ (Nat.le_of_lt hn2)
      _ = 2 ^ (a + n.log2) := by rw [← Nat.pow_add]; congr 1; omega
      _ ≤ _ := hD1
  have hq2 : m * 2 ^ more / n < 2 ^ (a + 1) := by
    rw [Nat.div_lt_iff_lt_mul hnp]
    calc m * 2 ^ more < 2 ^ (a + n.log2 + 1) := hD2
      _ = 2 ^ (a + 1) * 2 ^ n.log2 := by rw [← Nat.pow_add]; congr 1; omega
      _ ≤ _ := Nat.mul_le_mul_left _ hn1
  have hnP : n * 2 ^ 53 ≤ m * 2 ^ more := by
    calc n * 2 ^ 53 ≤ 2 ^ (n.log2 + 1) * 2 ^ 53 := Nat.mul_le_mul_right _ (Nat.le_of_lt hn2)
      _ = 2 ^ (n.log2 + 1 + 53) := (Nat.pow_add 2 _ _).symm
      _ ≤ 2 ^ (a + n.log2) := Nat.pow_le_pow_right (by decide) (by omega)
      _ ≤ _ := hD1
  have hdm := Nat.div_add_mod (m * 2 ^ more) n
  rw [Nat.mul_comm] at hdm
  have hres : ((Ieee.double.read x).quotient 54 (Ieee.double.read y)) = some (.number s (2 * (m * 2 ^ more / n) + (m * 2 ^ more % n != 0).toNat) (p - j - more - 1)) := by
    rw [h1, g1]
    show (if n = 0 then _ else _) = _
    rw [if_neg n0]
    show some (Datum.number (s ^^ false) (2 * ((m <<< (54 + n.log2 - m.log2)) / n) + ((m <<< (54 + n.log2 - m.log2)) % n != 0).toNat) (p - j - ((54 + n.log2 - m.log2 : Nat) : Int) - 1)) = _
    rw [← hmore, Nat.shiftLeft_eq, Bool.xor_false]
  have hst := sticky_eq (m * 2 ^ more % n)
  have hlt := Nat.mod_lt (m * 2 ^ more) hnp
  have hNR : NR 1 ((2 * (m * 2 ^ more / n) + (m * 2 ^ more % n != 0).toNat) * n) (2 * (m * 2 ^ more)) := by
    unfold NR
    rw [Nat.one_mul]
    exact auxQ hdm.symm hlt hst hnP
  generalize hmag : 2 * (m * 2 ^ more / n) + (m * 2 ^ more % n != 0).toNat = mag at hres hNR
  have hst1 : (m * 2 ^ more % n != 0).toNat ≤ 1 := by rw [hst]; split <;> omega
  have hmag1 : 2 ^ a ≤ mag := by
    have : 2 ^ a = 2 ^ (a - 1) * 2 := by rw [← Nat.pow_succ]; congr 1; omega
    omega
  have hmag2 : mag < 2 ^ (a + 2) := by
    have : 2 ^ (a + 2) = 2 ^ (a + 1) * 2 := Nat.pow_succ ..
    omega
  have hmag0 : mag ≠ 0 := by have := Nat.two_pow_pos a; omega
  have hlg1 : a ≤ mag.log2 := (Nat.le_log2 hmag0).2 hmag1
  have hlg2 : mag.log2 ≤ a + 1 := log2_le hmag2
  obtain ⟨Q, r1, r2⟩ := rv_write s mag (p - j - more - 1) ((j + 1074).toNat + (more + 1)) (mag * 2 ^ ((p + 1074).toNat + 1074)) hmag0 (by omega) (.inr (by omega)) (by omega) (congrArg (fun e => mag * 2 ^ e) (by omega))
  refine ⟨_, Q, ?_, r1, ?_⟩
  · show ((Ieee.double.read x).quotient 54 (Ieee.double.read y)).map Ieee.double.write = _
    rw [hres]; rfl
  · have r3 := r2.scale n
    have r4 := hNR.scale (2 ^ ((p + 1074).toNat + 1074))
    have e1 : mag * 2 ^ ((p + 1074).toNat + 1074) * n = mag * n * 2 ^ ((p + 1074).toNat + 1074) := Nat.mul_right_comm _ _ _
    rw [e1] at r3
    have r5 := r3.trans r4 Nat.one_le_two_pow
    have e2 : Q * 2 ^ ((j + 1074).toNat + (more + 1)) * n = Q * S * (2 ^ 1074 * 2 ^ (more + 1)) := by
      rw [Nat.pow_add 2 (j + 1074).toNat (more + 1), acQ1, g3, acQ2]
    have e3 : 2 * (m * 2 ^ more) * 2 ^ ((p + 1074).toNat + 1074) = A * (2 ^ 1074 * 2 ^ (more + 1)) := by
      rw [Nat.pow_add 2 (p + 1074).toNat 1074, show 2 ^ (more + 1) = 2 ^ more * 2 from Nat.pow_succ .., ← h4, acQ3]
    rw [e2, e3] at r5
    exact r5.unscale (Nat.mul_pos (Nat.two_pow_pos _) (Nat.two_pow_pos _))
theorem rv_zero (s : Bool) (place : Int) : RV (Ieee.double.write (.number s 0 place)) s 0 := by
  refine ⟨0, -1074, ?_, by decide, by decide, by simp⟩
  show Ieee.double.read (Ieee.double.nearest s 0 place) = _
  unfold Format.nearest
  rw [if_pos rfl, read_word s 0 (by omega), if_pos (by decide)]
theorem read_valV {s : Bool} {m : Nat} {i base V : Int} (hb : base ≤ i) (h0 : -1074 ≤ base) (h : signed s m (i + 1074).toNat = V) : signed s m (i - base).toNat * 2 ^ (base + 1074).toNat = V := by
  rw [signed_mul, ← h]
  congr 1; omega
/-- A whole number less a number. -/
theorem rv_sub {x y Q : Nat} {z : Int} {s : Bool} (hx : FV x z) (hy : RV y s Q) (hD : (z * 2 ^ 1074 - (if s then -(Q : Int) else Q)).natAbs ≤ 2 ^ 1076) :
    ∃ r t A, floatBits .sub .f64 x y = some r ∧ RV r t A ∧ NR 1 A (z * 2 ^ 1074 - (if s then -(Q : Int) else Q)).natAbs := by
  obtain ⟨s1, m, i, h1, h2, h3⟩ := hx
  obtain ⟨n, j, g1, g2, _, g3⟩ := hy
  have hb : -1074 ≤ min i j := by omega
  have g4 : signed (!s) n (j + 1074).toNat = -(if s then -(Q : Int) else Q) := by
    rw [signed_opp, signed_eq, ← g3]
    cases s <;> simp
  have v : (signed s1 m (i - min i j).toNat + signed (!s) n (j - min i j).toNat) * 2 ^ (min i j + 1074).toNat = z * 2 ^ 1074 - (if s then -(Q : Int) else Q) := by
    rw [Int.add_mul, read_val (by omega) hb h3, read_valV (by omega) hb g4, ← Int.sub_eq_add_neg]
  generalize (z * 2 ^ 1074 - (if s then -(Q : Int) else Q)) = V at *
  generalize hT : signed s1 m (i - min i j).toNat + signed (!s) n (j - min i j).toNat = T at v
  have hTD : T.natAbs * 2 ^ (min i j + 1074).toNat = V.natAbs := by
    rw [← v, Int.natAbs_mul, Int.natAbs_pow]; rfl
  have hop : floatBits .sub .f64 x y = some (Ieee.double.write (.number (if T = 0 then s1 && !s else decide (T < 0)) T.natAbs (min i j))) := by
    show ((Ieee.double.read x).sum (Ieee.double.read y).opposite).map Ieee.double.write = _
    rw [h1, g1]
    show some _ = some _
    rw [hT]
  generalize (if T = 0 then s1 && !s else decide (T < 0)) = t at hop
  by_cases h0 : T.natAbs = 0
  · rw [h0] at hTD hop
    rw [Nat.zero_mul] at hTD
    refine ⟨_, t, 0, hop, rv_zero _ _, ?_⟩
    rw [← hTD]
    unfold NR; simp
  · have hl : T.natAbs.log2 + (min i j + 1074).toNat ≤ 1076 := by
      rw [← log2_mul_pow h0, hTD]
      exact log2_le (Nat.lt_of_le_of_lt hD (Nat.pow_lt_pow_right (by decide) (by decide)))
    obtain ⟨A, r1, r2⟩ := rv_write t T.natAbs (min i j) 0 V.natAbs h0 (by omega) (.inl hb) (by omega) (by rw [← hTD]; exact congrArg (fun e => T.natAbs * 2 ^ e) (by omega))
    rw [Nat.pow_zero, Nat.mul_one] at r2
    exact ⟨_, t, A, hop, r1, r2⟩
theorem read_abs (x : Nat) {t : Bool} {A : Nat} (h : RV x t A) : RV (x % 2 ^ 63) false A := by
  obtain ⟨m, p, h1, h2, h3, h4⟩ := h
  refine ⟨m, p, ?_, h2, h3, h4⟩
  have e1 : (x % 2 ^ 63) % Ieee.double.signWeight = x % Ieee.double.signWeight := Nat.mod_mod ..
  have e2 : (x % 2 ^ 63 / Ieee.double.signWeight % 2 == 1) = false := by
    show (x % 2 ^ 63 / 2 ^ 63 % 2 == 1) = false
    rw [Nat.div_eq_of_lt (Nat.mod_lt _ (Nat.two_pow_pos _))]; rfl
  unfold Format.read at h1 ⊢
  dsimp only at h1 ⊢
  rw [e1, e2]
  revert h1
  split
  · intro h; simp only [Datum.number.injEq] at h; obtain ⟨_, rfl, rfl⟩ := h; rfl
  · split
    · intro h; simp only [Datum.number.injEq] at h; obtain ⟨_, rfl, rfl⟩ := h; rfl
    · intro h; split at h <;> cases h
theorem rv_order {x y A B : Nat} (hx : RV x false A) (hy : RV y false B) : Ieee.double.order x y = some (compare (A : Int) B) := by
  obtain ⟨m, i, h1, h2, _, h3⟩ := hx
  obtain ⟨n, j, g1, g2, _, g3⟩ := hy
  have hb : -1074 ≤ min i j := by omega
  have e1 : signed false m (i + 1074).toNat = (A : Int) := by rw [signed_eq, ← h3]; simp
  have e2 : signed false n (j + 1074).toNat = (B : Int) := by rw [signed_eq, ← g3]; simp
  have v1 := read_valV (base := min i j) (by omega) hb e1
  have v2 := read_valV (base := min i j) (by omega) hb e2
  have hp : (0 : Int) < 2 ^ (min i j + 1074).toNat := Int.pow_pos (by decide)
  show (Ieee.double.read x).order (Ieee.double.read y) = _
  rw [h1, g1]
  show some (compare (signed false m (i - min i j).toNat) (signed false n (j - min i j).toNat)) = _
  generalize signed false m (i - min i j).toNat = X at v1 ⊢
  generalize signed false n (j - min i j).toNat = Y at v2 ⊢
  rw [← v1, ← v2]
  generalize (2 : Int) ^ (min i j + 1074).toNat = P at hp
  congr 1
  have lt : X < Y ↔ X * P < Y * P := ⟨fun h => Int.mul_lt_mul_of_pos_right h hp, fun h => Int.lt_of_mul_lt_mul_right h (Int.le_of_lt hp)⟩
  have eq : X = Y ↔ X * P = Y * P := ⟨fun h => by rw [h], fun h => Int.eq_of_mul_eq_mul_right (by omega) h⟩
  unfold compare instOrdInt compareOfLessAndEq
  simp only [lt, eq]
/-- 1.001 -/
theorem rv_c : RV 4607186922399644778 false (4508103226997866 * 2 ^ 1022) := by
  refine ⟨4508103226997866, -52, by rfl, by decide, by decide, by rfl⟩
theorem rv_div0 {x y S : Nat} (hx : FV x 0) (hy : FV y S) (hS : S ≠ 0) : ∃ r s, floatBits .quo .f64 x y = some r ∧ RV r s 0 := by
  obtain ⟨s, m, p, h1, h2, h3, _⟩ := fv_rv hx
  obtain ⟨t, n, j, g1, g2, g3, g4⟩ := fv_rv hy
  rw [Int.natAbs_natCast] at g3
  obtain ⟨n0, ln⟩ := log2_of g3 hS
  have m0 : m = 0 := by
    rcases Nat.mul_eq_zero.1 (h3.trans (Nat.zero_mul _)) with h | h
    · exact h
    · exact absurd h (Nat.ne_of_gt (Nat.two_pow_pos _))
  subst m0
  refine ⟨_, s ^^ t, ?_, rv_zero _ (p - j - ((54 + n.log2 - (0 : Nat).log2 : Nat) : Int) - 1)⟩
  show ((Ieee.double.read x).quotient 54 (Ieee.double.read y)).map Ieee.double.write = _
  rw [h1, g1]
  show (if n = 0 then _ else _ : Option Datum).map Ieee.double.write = _
  rw [if_neg n0]
  show some (Ieee.double.write (Datum.number (s ^^ t) (2 * ((0 <<< (54 + n.log2 - (0 : Nat).log2)) / n) + ((0 <<< (54 + n.log2 - (0 : Nat).log2)) % n != 0).toNat) (p - j - ((54 + n.log2 - (0 : Nat).log2 : Nat) : Int) - 1))) = _
  rw [Nat.zero_shiftLeft, Nat.zero_div, Nat.zero_mod]; rfl
theorem auxC (A V U P e C K : Nat) (h1 : A * P ≤ V * P + 1 * V) (h2 : V * P ≤ (P + e) * U) (hU : U = K) (hC : (P + e) * (P + 1) * K ≤ C * (P * P)) (hP : 0 < P) : A ≤ C := by
  subst hU
  refine Nat.le_of_mul_le_mul_right ?_ (Nat.mul_pos hP hP)
  calc A * (P * P) = A * P * P := by ac_rfl
    _ ≤ (V * P + 1 * V) * P := Nat.mul_le_mul_right _ h1
    _ = V * P * (P + 1) := by rw [Nat.one_mul, Nat.mul_add, Nat.mul_one, Nat.add_mul]
    _ ≤ (P + e) * U * (P + 1) := Nat.mul_le_mul_right _ h2
    _ = (P + e) * (P + 1) * U := by ac_rfl
    _ ≤ C * (P * P) := hC
theorem natAbs_add (a b : Int) : (a + b).natAbs ≤ a.natAbs + b.natAbs := by omega
theorem auxN (Q S N U : Nat) (P e : Nat) (h1 : Q * S * P ≤ N * U * P + e * (N * U)) (h2 : N * U * P ≤ Q * S * P + e * (N * U)) : ((N : Int) * U - (Q : Int) * S).natAbs * P ≤ e * (N * U) := by
  have e1 : ((N : Int) * U - (Q : Int) * S).natAbs = if Q * S ≤ N * U then N * U - Q * S else Q * S - N * U := by
    rw [← Int.natCast_mul, ← Int.natCast_mul]
    split <;> omega
  rw [e1]
  split
  · rw [Nat.sub_mul]; omega
  · rw [Nat.sub_mul]; omega
theorem auxV {f x w S : Int} {Q N U P : Nat} {s : Bool} (hS : 0 < S) (hf : -S ≤ f * S - x * w ∧ f * S - x * w ≤ S) (hN : x * w = if s then -(N : Int) else N) (hNR : Q * S.natAbs * P ≤ N * U * P + 7 * (N * U) ∧ N * U * P ≤ Q * S.natAbs * P + 7 * (N * U)) (hNS : N ≤ 100000000000 * S.natAbs) :
    (f * U - (if s then -(Q : Int) else Q)).natAbs * P ≤ (P + 700000000000) * U := by
  obtain ⟨T, rfl⟩ : ∃ T : Nat, S = T := ⟨S.toNat, by omega⟩
  rw [Int.natAbs_natCast] at hNR hNS
  have hT : 0 < T := by omega
  refine Nat.le_of_mul_le_mul_right ?_ hT
  have e0 := auxN Q T N U P 7 hNR.1 hNR.2
  have e1 : ((f * U - (if s then -(Q : Int) else Q)) * T).natAbs ≤ ((f * T - x * w) * U).natAbs + ((N : Int) * U - (Q : Int) * T).natAbs := by
    have : (f * U - (if s then -(Q : Int) else Q)) * T = (f * T - x * w) * U + (if s then -((N : Int) * U - (Q : Int) * T) else (N : Int) * U - (Q : Int) * T) := by
      rw [hN]
      cases s
      · simp only [Bool.false_eq_true, if_false, Int.sub_mul]
        rw [Int.mul_right_comm f]; omega
      · simp only [if_true, Int.sub_mul, Int.neg_mul]
        rw [Int.mul_right_comm f]; omega
    rw [this]
    refine Nat.le_trans (natAbs_add _ _) ?_
    cases s
    · exact Nat.le_refl _
    · rw [if_pos rfl, Int.natAbs_neg]; exact Nat.le_refl _
  rw [Int.natAbs_mul, Int.natAbs_natCast, Int.natAbs_mul, Int.natAbs_natCast] at e1
  have e2 : (f * T - x * w).natAbs ≤ T := by omega
  generalize (f * U - (if s then -(Q : Int) else Q)).natAbs = V at *
  generalize ((N : Int) * U - (Q : Int) * T).natAbs = E at *
  generalize (f * T - x * w).natAbs = G at *
  calc V * P * T = V * T * P := by ac_rfl
    _ ≤ (G * U + E) * P := Nat.mul_le_mul_right _ e1
    _ = G * U * P + E * P := Nat.add_mul ..
    _ ≤ T * U * P + 7 * (N * U) := Nat.add_le_add (Nat.mul_le_mul_right _ (Nat.mul_le_mul_right _ e2)) e0
    _ ≤ T * U * P + 7 * (100000000000 * T * U) := Nat.add_le_add_left (Nat.mul_le_mul_left _ (Nat.mul_le_mul_right _ hNS)) _
    _ = (P + 700000000000) * U * T := by
      rw [Nat.add_mul, Nat.add_mul, show 7 * (100000000000 * T * U) = 700000000000 * U * T by
        have a1 : 100000000000 * T * U = 100000000000 * (T * U) := Nat.mul_assoc ..
        have a2 : 700000000000 * U * T = 700000000000 * (T * U) := by rw [Nat.mul_assoc, Nat.mul_comm U]
        omega]
      congr 1; ac_rfl
theorem hC_gen (a b c Z : Nat) (h : a * c ≤ 4508103226997866 * b) : a * (c * Z) ≤ 4508103226997866 * Z * b := by
  calc a * (c * Z) = a * c * Z := by rw [Nat.mul_assoc]
    _ ≤ 4508103226997866 * b * Z := Nat.mul_le_mul_right _ h
    _ = _ := by rw [Nat.mul_assoc, Nat.mul_assoc, Nat.mul_comm b Z]
theorem hC_num : (2 ^ 53 + 700000000000) * (2 ^ 53 + 1) * (2 ^ 52 * 2 ^ 1022) ≤ 4508103226997866 * 2 ^ 1022 * (2 ^ 53 * 2 ^ 53) :=
  hC_gen _ _ _ _ (by decide +kernel)
theorem not_gt {A C : Nat} (h : A ≤ C) : compare (A : Int) C ≠ .gt := by
  unfold compare instOrdInt compareOfLessAndEq
  dsimp only
  split
  · decide
  · rw [if_pos (by omega)]; decide
theorem sub_end {y Q : Nat} {f : Int} {s : Bool} (hf : f.natAbs ≤ 2 ^ 53) (hy : RV y s Q) (hV : (f * ((2 ^ 1074 : Nat) : Int) - (if s then -(Q : Int) else Q)).natAbs * 2 ^ 53 ≤ (2 ^ 53 + 700000000000) * 2 ^ 1074) :
    ∃ c, floatBits .sub .f64 (FloatKind.f64.nearest f) y = some c ∧ Ieee.double.order (c % 2 ^ 63) 4607186922399644778 ≠ some .gt := by
  have e : ((2 ^ 1074 : Nat) : Int) = 2 ^ 1074 := by rw [Int.natCast_pow]; rfl
  rw [e] at hV
  have hD : (f * 2 ^ 1074 - (if s then -(Q : Int) else Q)).natAbs ≤ 2 ^ 1076 := by
    generalize (f * 2 ^ 1074 - (if s then -(Q : Int) else Q)).natAbs = V at hV
    have e4 : 2 ^ 1076 = 4 * 2 ^ 1074 := by rw [Nat.pow_add 2 1074 2, Nat.mul_comm]
    rw [e4]
    generalize 2 ^ 1074 = U at *
    refine Nat.le_of_mul_le_mul_right (Nat.le_trans hV ?_) (Nat.two_pow_pos 53)
    rw [Nat.mul_right_comm]
    exact Nat.mul_le_mul_right _ (by decide)
  obtain ⟨r, t, A, h1, h2, h3⟩ := rv_sub (fv_int hf) hy hD
  refine ⟨r, h1, ?_⟩
  rw [rv_order (read_abs r h2) rv_c]
  intro h
  refine not_gt ?_ (Option.some.inj h)
  exact auxC A _ (2 ^ 1074) (2 ^ 53) 700000000000 _ (2 ^ 52 * 2 ^ 1022) h3.1 hV (Nat.pow_add 2 52 1022) hC_num (Nat.two_pow_pos 53)
theorem NR_two {a b : Nat} (h : NR 1 a b) : b ≤ a * 2 ∧ a ≤ b * 2 := by
  unfold NR at h
  have h53 : (2 : Nat) ^ 53 = 9007199254740992 := rfl
  rw [h53] at h
  omega
/-- What the law asks of each part: less than a coin from its own, by the doubles' reckoning. -/
theorem flt_near {x w S f : Int} (hx : x.natAbs ≤ 100000000000) (hw : 0 ≤ w ∧ w ≤ S) (hS : 0 < S ∧ S ≤ 67108864) (hf : -S ≤ f * S - x * w ∧ f * S - x * w ≤ S) (hf2 : f.natAbs ≤ 2 ^ 53) :
    ∃ a b c, floatBits .mul .f64 (FloatKind.f64.nearest x) (FloatKind.f64.nearest w) = some a ∧ floatBits .quo .f64 a (FloatKind.f64.nearest S) = some b ∧ floatBits .sub .f64 (FloatKind.f64.nearest f) b = some c ∧ Ieee.double.order (c % 2 ^ 63) 4607186922399644778 ≠ some .gt := by
  obtain ⟨T, rfl⟩ : ∃ T : Nat, S = T := ⟨S.toNat, by omega⟩
  have h53 : (2 : Nat) ^ 53 = 9007199254740992 := rfl
  have hFS : FV (FloatKind.f64.nearest (T : Int)) T := fv_int (by rw [h53]; omega)
  by_cases h0 : x * w = 0
  · obtain ⟨a, h1, h2⟩ := fv_mul (fv_int (n := x) (by rw [h53]; omega)) (fv_int (n := w) (by rw [h53]; omega)) (by rw [h0]; decide)
    rw [h0] at h2
    obtain ⟨b, s, h3, h4⟩ := rv_div0 h2 hFS (by omega)
    have hV := auxV (s := s) (Q := 0) (N := 0) (U := 2 ^ 1074) (P := 2 ^ 53) hS.1 hf (by rw [h0]; cases s <;> rfl) ⟨by simp only [Nat.zero_mul, Nat.mul_zero, Nat.zero_le], by simp only [Nat.zero_mul, Nat.mul_zero, Nat.zero_le]⟩ (Nat.zero_le _)
    obtain ⟨c, h5, h6⟩ := sub_end hf2 h4 hV
    exact ⟨a, b, c, h1, h3, h5, h6⟩
  · have hx0 : x ≠ 0 := fun e => h0 (by rw [e, Int.zero_mul])
    have hw0 : w ≠ 0 := fun e => h0 (by rw [e, Int.mul_zero])
    have hNS : x.natAbs * w.natAbs ≤ 100000000000 * (T : Int).natAbs := Nat.mul_le_mul hx (by omega)
    have hN0 : x.natAbs * w.natAbs ≠ 0 := Nat.mul_ne_zero (by omega) (by omega)
    have hNl : (x.natAbs * w.natAbs).log2 ≤ 70 := log2_le (by
      have : (2 : Nat) ^ 71 = 2361183241434822606848 := rfl
      rw [this]; omega)
    obtain ⟨a, A, h1, h2, h3⟩ := rv_mul (fv_int (n := x) (by rw [h53]; omega)) (fv_int (n := w) (by rw [h53]; omega)) hx0 hw0 (by omega)
    have hwf : decide (w < 0) = false := decide_eq_false (by omega)
    rw [hwf, Bool.xor_false] at h2
    generalize hN : x.natAbs * w.natAbs = N at *
    have hA : N * 2 ^ 1074 ≤ A * 2 ∧ A ≤ N * 2 ^ 1074 * 2 := NR_two h3
    have hlogN : (N * 2 ^ 1074).log2 = N.log2 + 1074 := log2_mul_pow hN0 _
    have hNU : N * 2 ^ 1074 ≠ 0 := Nat.mul_ne_zero hN0 (Nat.ne_of_gt (Nat.two_pow_pos _))
    have hA0 : A ≠ 0 := by omega
    have l1 : (A * 2 ^ 1).log2 = A.log2 + 1 := log2_mul_pow hA0 _
    have l2 : (N * 2 ^ 1074 * 2 ^ 1).log2 = (N * 2 ^ 1074).log2 + 1 := log2_mul_pow hNU _
    have l3 : N.log2 + 1074 ≤ A.log2 + 1 := by
      rw [← l1]
      refine (Nat.le_log2 (by omega)).2 ?_
      have := Nat.log2_self_le hNU
      rw [hlogN] at this
      exact Nat.le_trans this hA.1
    have l4 : A.log2 ≤ N.log2 + 1076 := log2_le (by
      have := @Nat.lt_log2_self (N * 2 ^ 1074 * 2 ^ 1)
      rw [l2, hlogN] at this
      refine Nat.lt_of_le_of_lt hA.2 (Nat.lt_of_lt_of_le this ?_)
      exact Nat.pow_le_pow_right (by decide) (by omega))
    obtain ⟨b, Q, h4, h5, h6⟩ := rv_div h2 hFS (by omega) hA0 (by omega) (by omega) (log2_le (by
      have : (2 : Nat) ^ 41 = 2199023255552 := rfl
      rw [this]; omega))
    have h7 := h6.trans h3 Nat.one_le_two_pow
    have hV := auxV (s := decide (x < 0)) (Q := Q) (N := N) (U := 2 ^ 1074) (P := 2 ^ 53) hS.1 hf (by
      rw [← hN, Int.natCast_mul, show (w.natAbs : Int) = w by omega]
      by_cases hx : x < 0
      · rw [decide_eq_true hx, if_pos rfl, ← Int.neg_mul, show -(x.natAbs : Int) = x by omega]
      · rw [decide_eq_false hx, show (x.natAbs : Int) = x by omega]; rfl) (by rw [Int.natAbs_natCast]; exact h7) hNS
    obtain ⟨c, h8, h9⟩ := sub_end hf2 h5 hV
    exact ⟨a, b, c, h1, h4, h8, h9⟩
end Go.Rx

