/- Whole numbers as words of 64-bit floats: what is exact. -/
import Derived.Laws.ComplexArith
namespace Go.Rx
open Ieee

theorem log2_mul_pow {n : Nat} (h : n ≠ 0) (t : Nat) : (n * 2 ^ t).log2 = n.log2 + t := by
  have hp : 0 < 2 ^ t := Nat.two_pow_pos t
  rw [Nat.log2_eq_iff (by intro e; rcases Nat.mul_eq_zero.1 e with e | e <;> omega)]
  constructor
  · rw [Nat.pow_add]; exact Nat.mul_le_mul_right _ (Nat.log2_self_le h)
  · rw [show n.log2 + t + 1 = (n.log2 + 1) + t by omega, Nat.pow_add]
    exact Nat.mul_lt_mul_of_pos_right Nat.lt_log2_self hp
theorem cut0 (neg : Bool) (n : Nat) : Toward.even.cut neg n 0 = n := by
  unfold Toward.cut
  simp [Nat.mod_one]
/-- A number that is a multiple of what is dropped is cut exactly. -/
theorem cutD (neg : Bool) (m d : Nat) (hm : m ≠ 0) : Toward.even.cut neg (m * 2 ^ d) d = m := by
  have hp : 0 < 2 ^ d := Nat.two_pow_pos d
  have hmin : min d ((m * 2 ^ d).log2 + 2) = d := by rw [log2_mul_pow hm]; omega
  unfold Toward.cut
  simp only [hmin, Nat.shiftLeft_eq, Nat.one_mul]
  rw [Nat.mul_div_cancel _ hp, Nat.mul_mod_left]
  have h1 : decide (2 ^ d < 2 * 0) = false := by simp
  have h2 : ((2 ^ d == 2 * 0) && (m % 2 == 1)) = false := by
    have : (2 ^ d == 2 * 0) = false := by simp
    rw [this]; rfl
  rw [h1, h2]; rfl

theorem bin_d : Ieee.double.binade = 2 ^ 52 := rfl
theorem least_d : Ieee.double.leastPlace = -1074 := rfl
theorem inf_d : Ieee.double.infRung = 2047 * 2 ^ 52 := rfl
theorem sw_d : Ieee.double.signWeight = 2 ^ 63 := rfl

/-- What a word of a sign and a rung is read as. -/
theorem read_word (neg : Bool) (r : Nat) (h : r < 2047 * 2 ^ 52) : Ieee.double.read (Ieee.double.word neg r) = if r < 2 ^ 52 then Datum.number neg r (-1074) else Datum.number neg (2 ^ 52 + r % 2 ^ 52) (-1074 + (r / 2 ^ 52 - 1 : Nat)) := by
  have e1 : (Ieee.double.word neg r) % Ieee.double.signWeight = r := by rw [sw_d]; cases neg <;> simp only [Format.word, sw_d] <;> simp <;> omega
  have e2 : ((Ieee.double.word neg r) / Ieee.double.signWeight % 2 == 1) = neg := by
    rw [sw_d]; cases neg <;> simp only [Format.word, sw_d] <;> simp <;> omega
  unfold Format.read
  dsimp only
  rw [e1, e2]
  by_cases h1 : r < 2 ^ 52
  · rw [if_pos h1, if_pos (show r < Ieee.double.binade from h1)]; rfl
  · rw [if_neg h1, if_neg (show ¬ r < Ieee.double.binade from h1), if_pos (show r < Ieee.double.infRung from h)]; rfl

set_option exponentiation.threshold 2000 in
/-- A whole number of at most 53 digits is written exactly: of whatever form it comes. -/
theorem write_exact (s : Bool) (mag : Nat) (place : Int) (N k : Nat) (hk : 0 ≤ place + k) (hN : N ≤ 2 ^ 53) (hv : mag * 2 ^ (place + k).toNat = N * 2 ^ k) :
    ∃ m p, Ieee.double.read (Ieee.double.write (Datum.number s mag place)) = Datum.number s m p ∧ -1074 ≤ p ∧ m * 2 ^ (p + 1074).toNat = N * 2 ^ 1074 := by
  have hk2 : 0 < 2 ^ k := Nat.two_pow_pos k
  have hP : 0 < 2 ^ (place + k).toNat := Nat.two_pow_pos _
  show ∃ m p, Ieee.double.read (Ieee.double.nearest s mag place) = _ ∧ _
  unfold Format.nearest
  by_cases h0 : mag = 0
  · subst h0
    have : N = 0 := by
      rw [Nat.zero_mul] at hv
      rcases Nat.mul_eq_zero.1 hv.symm with e | e <;> omega
    subst this
    rw [if_pos rfl, read_word s 0 (by omega)]
    exact ⟨0, -1074, by simp, by omega, by simp⟩
  · rw [if_neg h0]
    dsimp only
    have hN0 : N ≠ 0 := by
      intro e; subst e
      rw [Nat.zero_mul] at hv
      rcases Nat.mul_eq_zero.1 hv with e | e <;> omega
    have hl : mag.log2 + (place + k).toNat = N.log2 + k := by
      rw [← log2_mul_pow h0, ← log2_mul_pow hN0, hv]
    have hlast : max (place + (mag.log2 : Int) - (Ieee.double.fractionBits : Int)) Ieee.double.leastPlace = (N.log2 : Int) - 52 := by
      show max (place + (mag.log2 : Int) - 52) (-1074) = _
      omega
    rw [hlast]
    have hN1 := Nat.log2_self_le hN0
    have hN2 := @Nat.lt_log2_self N
    have hl53 : N.log2 ≤ 53 := by
      rcases Nat.lt_or_ge 53 N.log2 with h | h
      · have := Nat.pow_le_pow_right (show 0 < 2 by omega) (show 54 ≤ N.log2 from h)
        omega
      · exact h
    -- what is kept
    obtain ⟨K, hK⟩ : ∃ K, K * 2 ^ N.log2 = N * 2 ^ 52 := by
      rcases Nat.lt_or_ge N.log2 53 with h | h
      · refine ⟨N * 2 ^ (52 - N.log2), ?_⟩
        rw [Nat.mul_assoc, ← Nat.pow_add]; congr 2; omega
      · have e : N.log2 = 53 := by omega
        rw [e] at hN1 ⊢
        have : N = 2 ^ 53 := by omega
        exact ⟨2 ^ 52, by rw [this, Nat.mul_comm]⟩
    have hpl : 0 < 2 ^ N.log2 := Nat.two_pow_pos _
    have hK1 : 2 ^ 52 ≤ K := by
      refine Nat.le_of_mul_le_mul_right ?_ hpl
      rw [hK, Nat.mul_comm]; exact Nat.mul_le_mul_right _ hN1
    have hK2 : K < 2 ^ 53 := by
      refine Nat.lt_of_mul_lt_mul_right (a := 2 ^ N.log2) ?_
      rw [hK, show (2 : Nat) ^ 53 * 2 ^ N.log2 = 2 ^ (N.log2 + 1) * 2 ^ 52 by rw [← Nat.pow_add, ← Nat.pow_add]; congr 1; omega]
      exact Nat.mul_lt_mul_of_pos_right hN2 (by decide)
    have hkept : Toward.even.cut s (mag <<< (place - ((N.log2 : Int) - 52)).toNat) (((N.log2 : Int) - 52) - place).toNat = K := by
      rw [Nat.shiftLeft_eq]
      -- mag * 2^(place+k) = N * 2^k
      rcases Nat.lt_or_ge 52 mag.log2 with h | h
      · have e1 : (place - ((N.log2 : Int) - 52)).toNat = 0 := by omega
        have e2 : (((N.log2 : Int) - 52) - place).toNat = mag.log2 - 52 := by omega
        rw [e1, e2, Nat.pow_zero, Nat.mul_one]
        have : mag = K * 2 ^ (mag.log2 - 52) := by
          refine Nat.eq_of_mul_eq_mul_right hP (Nat.eq_of_mul_eq_mul_right (show 0 < 2 ^ 52 by decide) ?_)
          rw [hv]
          calc N * 2 ^ k * 2 ^ 52 = (N * 2 ^ 52) * 2 ^ k := by rw [Nat.mul_assoc, Nat.mul_comm (2 ^ k), ← Nat.mul_assoc]
            _ = K * 2 ^ (N.log2 + k) := by rw [← hK, Nat.mul_assoc, ← Nat.pow_add]
            _ = K * 2 ^ (mag.log2 - 52) * 2 ^ (place + k).toNat * 2 ^ 52 := by
              rw [Nat.mul_assoc, Nat.mul_assoc, ← Nat.pow_add, ← Nat.pow_add]; congr 2; omega
        rw [this]
        have hl2 : (K * 2 ^ (mag.log2 - 52)).log2 - 52 = mag.log2 - 52 := by rw [← this]
        exact (by rw [hl2]; exact cutD s K _ (by omega) : Toward.even.cut s (K * 2 ^ (mag.log2 - 52)) ((K * 2 ^ (mag.log2 - 52)).log2 - 52) = K)
      · have e2 : (((N.log2 : Int) - 52) - place).toNat = 0 := by omega
        have e1 : (place - ((N.log2 : Int) - 52)).toNat = 52 - mag.log2 := by omega
        rw [e1, e2, cut0]
        refine Nat.eq_of_mul_eq_mul_right hpl (Nat.eq_of_mul_eq_mul_right hk2 ?_)
        rw [hK]
        calc mag * 2 ^ (52 - mag.log2) * 2 ^ N.log2 * 2 ^ k = mag * 2 ^ ((place + k).toNat + 52) := by
              rw [Nat.mul_assoc, Nat.mul_assoc, ← Nat.pow_add, ← Nat.pow_add]; congr 2; omega
          _ = N * 2 ^ 52 * 2 ^ k := by rw [Nat.pow_add, ← Nat.mul_assoc, hv, Nat.mul_assoc, Nat.mul_comm (2 ^ k), ← Nat.mul_assoc]
    rw [hkept]
    have er : (((N.log2 : Int) - 52) - Ieee.double.leastPlace).toNat = N.log2 + 1022 := by rw [least_d]; omega
    rw [er, bin_d, inf_d, Nat.min_eq_left (by omega), read_word s _ (by omega), if_neg (by omega)]
    refine ⟨2 ^ 52 + ((N.log2 + 1022) * 2 ^ 52 + K) % 2 ^ 52, -1074 + (((N.log2 + 1022) * 2 ^ 52 + K) / 2 ^ 52 - 1 : Nat), rfl, by omega, ?_⟩
    have eK : 2 ^ 52 + ((N.log2 + 1022) * 2 ^ 52 + K) % 2 ^ 52 = K := by omega
    have eq : ((N.log2 + 1022) * 2 ^ 52 + K) / 2 ^ 52 = N.log2 + 1023 := by omega
    rw [eK, eq, show (-1074 + ((N.log2 + 1023 - 1 : Nat) : Int) + 1074).toNat = N.log2 + 1022 by omega, Nat.pow_add, ← Nat.mul_assoc, hK, Nat.mul_assoc, ← Nat.pow_add]


/-- The word x is the whole number n (both noughts are 0). -/
def FV (x : Nat) (n : Int) : Prop := ∃ s m p, Ieee.double.read x = Datum.number s m p ∧ -1074 ≤ p ∧ signed s m (p + 1074).toNat = n * 2 ^ 1074

theorem signed_eq (s : Bool) (m u : Nat) : signed s m u = (if s then -1 else 1) * ((m : Int) * 2 ^ u) := by
  unfold signed
  rw [Nat.shiftLeft_eq]
  cases s <;> simp [Int.natCast_mul, Int.natCast_pow]
theorem signed_mul (s : Bool) (m u v : Nat) : signed s m u * 2 ^ v = signed s m (u + v) := by
  rw [signed_eq, signed_eq, Int.pow_add, Int.mul_assoc, Int.mul_assoc]
theorem cast_eq {m u N w : Nat} (h : m * 2 ^ u = N * 2 ^ w) : (m : Int) * 2 ^ u = (N : Int) * 2 ^ w := by exact_mod_cast h
theorem cast_eq' {m u N w : Nat} (h : (m : Int) * 2 ^ u = (N : Int) * 2 ^ w) : m * 2 ^ u = N * 2 ^ w := by exact_mod_cast h
set_option exponentiation.threshold 2000 in
theorem p1074 : (0 : Int) < 2 ^ 1074 := Int.pow_pos (by decide)
theorem fv_write {s : Bool} {mag : Nat} {place : Int} {N k : Nat} (hk : 0 ≤ place + k) (hN : N ≤ 2 ^ 53) (hv : mag * 2 ^ (place + k).toNat = N * 2 ^ k) : FV (Ieee.double.write (.number s mag place)) (if s then -(N : Int) else N) := by
  obtain ⟨m, p, h1, h2, h3⟩ := write_exact s mag place N k hk hN hv
  refine ⟨s, m, p, h1, h2, ?_⟩
  rw [signed_eq]
  have : (m : Int) * 2 ^ (p + 1074).toNat = (N : Int) * 2 ^ 1074 := cast_eq h3
  rw [this]
  generalize (2 : Int) ^ 1074 = X
  cases s
  · simp
  · simp only [if_true]; rw [Int.neg_mul, Int.neg_mul, Int.one_mul]
/-- A whole number that is written. -/
theorem fv_put {s : Bool} {mag : Nat} {place n : Int} {k : Nat} (hk : 0 ≤ place + k) (hn : n.natAbs ≤ 2 ^ 53) (hv : (mag : Int) * 2 ^ (place + k).toNat = (n.natAbs : Int) * 2 ^ k) (hs : n ≠ 0 → (s = true ↔ n < 0)) : FV (Ieee.double.write (.number s mag place)) n := by
  have h := fv_write (s := s) hk hn (cast_eq' hv)
  have e : (if s then -(n.natAbs : Int) else n.natAbs) = n := by
    by_cases h0 : n = 0
    · subst h0; cases s <;> rfl
    · have := hs h0
      cases s with
      | true => have := this.1 rfl; simp only [if_true]; omega
      | false => have h2 : ¬ n < 0 := fun h => by cases this.2 h
                 simp only [Bool.false_eq_true, if_false]; omega
  rw [e] at h
  exact h
theorem fv_int {n : Int} (hn : n.natAbs ≤ 2 ^ 53) : FV (FloatKind.f64.nearest n) n :=
  fv_put (k := 0) (by omega) hn (by simp) (fun _ => by simp)
theorem read_val {s : Bool} {m : Nat} {i base a : Int} (hb : base ≤ i) (h0 : -1074 ≤ base) (h : signed s m (i + 1074).toNat = a * 2 ^ 1074) : signed s m (i - base).toNat * 2 ^ (base + 1074).toNat = a * 2 ^ 1074 := by
  rw [signed_mul, ← h]; congr 1; omega
theorem sign_of {T n : Int} {u : Nat} {c : Bool} (v : T * 2 ^ u = n * 2 ^ 1074) (hp : (0 : Int) < 2 ^ u) (hne : n ≠ 0) : (if T = 0 then c else decide (T < 0)) = true ↔ n < 0 := by
  have hT0 : T ≠ 0 := by
    intro h0; rw [h0, Int.zero_mul] at v
    rcases Int.mul_eq_zero.1 v.symm with h | h
    · exact hne h
    · have := p1074; omega
  rw [if_neg hT0, decide_eq_true_eq]
  constructor
  · intro hlt
    have h5 : T * 2 ^ u < 0 := Int.mul_neg_of_neg_of_pos hlt hp
    rw [v] at h5
    exact Int.not_le.1 fun hge => absurd h5 (Int.not_lt.2 (Int.mul_nonneg hge (Int.le_of_lt p1074)))
  · intro hlt
    have h5 : n * 2 ^ 1074 < 0 := Int.mul_neg_of_neg_of_pos hlt p1074
    rw [← v] at h5
    exact Int.not_le.1 fun hge => absurd h5 (Int.not_lt.2 (Int.mul_nonneg hge (Int.le_of_lt hp)))
theorem signed_abs (s : Bool) (m u : Nat) : (signed s m u).natAbs = m * 2 ^ u := by
  have e : ((m : Int) * 2 ^ u).natAbs = m * 2 ^ u := by rw [Int.natAbs_mul, Int.natAbs_pow]; rfl
  unfold signed; rw [Nat.shiftLeft_eq]; cases s <;> simp [e]
theorem signed_sign {s : Bool} {m u : Nat} {a : Int} (h : signed s m u = a * 2 ^ 1074) (ha : a ≠ 0) : s = true ↔ a < 0 := by
  have hX := p1074
  generalize (2 : Int) ^ 1074 = X at h hX
  unfold signed at h
  generalize m <<< u = M at h
  constructor
  · intro hs
    rw [hs, if_pos rfl] at h
    rcases Int.lt_trichotomy a 0 with h1 | h1 | h1
    · exact h1
    · exact absurd h1 ha
    · have := Int.mul_pos h1 hX
      omega
  · intro hlt
    have h1 := Int.mul_neg_of_neg_of_pos hlt hX
    cases s with
    | true => rfl
    | false => rw [if_neg (by decide)] at h; omega
theorem abs_eq {T n : Int} {u w : Nat} (h : T * 2 ^ u = n * 2 ^ w) : T.natAbs * 2 ^ u = n.natAbs * 2 ^ w := by
  have e := congrArg Int.natAbs h
  rw [Int.natAbs_mul, Int.natAbs_mul, Int.natAbs_pow, Int.natAbs_pow] at e
  exact e
theorem signed_abs_eq {s : Bool} {m u w : Nat} {a : Int} (h : signed s m u = a * 2 ^ w) : m * 2 ^ u = a.natAbs * 2 ^ w := by
  have e := congrArg Int.natAbs h
  rw [signed_abs, Int.natAbs_mul, Int.natAbs_pow] at e
  exact e
theorem fv_add {x y : Nat} {a b : Int} (hx : FV x a) (hy : FV y b) (hn : (a + b).natAbs ≤ 2 ^ 53) : ∃ r, floatBits .add .f64 x y = some r ∧ FV r (a + b) := by
  obtain ⟨s, m, i, h1, h2, h3⟩ := hx
  obtain ⟨t, n, j, g1, g2, g3⟩ := hy
  have hb : -1074 ≤ min i j := by omega
  have v : (signed s m (i - min i j).toNat + signed t n (j - min i j).toNat) * 2 ^ (min i j + 1074).toNat = (a + b) * 2 ^ 1074 := by
    rw [Int.add_mul, Int.add_mul, read_val (by omega) hb h3, read_val (by omega) hb g3]
  generalize hT : signed s m (i - min i j).toNat + signed t n (j - min i j).toNat = T at v
  have hp : (0 : Int) < 2 ^ (min i j + 1074).toNat := Int.pow_pos (by decide)
  refine ⟨Ieee.double.write (.number (if T = 0 then s && t else decide (T < 0)) T.natAbs (min i j)), ?_, ?_⟩
  · show ((Ieee.double.read x).sum (Ieee.double.read y)).map Ieee.double.write = _
    rw [h1, g1]
    show some _ = some _
    rw [hT]
  · refine fv_put (k := 1074) (by omega) hn ?_ ?_
    · exact cast_eq (w := 1074) (abs_eq (w := 1074) v)
    · intro hne
      have hT0 : T ≠ 0 := by
        intro h0; rw [h0, Int.zero_mul] at v
        rcases Int.mul_eq_zero.1 v.symm with h | h
        · exact hne h
        · have := p1074; omega
      rw [if_neg hT0, decide_eq_true_eq]
      constructor
      · intro hlt
        have h5 : T * 2 ^ (min i j + 1074).toNat < 0 := Int.mul_neg_of_neg_of_pos hlt hp
        rw [v] at h5
        exact Int.not_le.1 fun hge => absurd h5 (Int.not_lt.2 (Int.mul_nonneg hge (Int.le_of_lt p1074)))
      · intro hlt
        have h5 : (a + b) * 2 ^ 1074 < 0 := Int.mul_neg_of_neg_of_pos hlt p1074
        rw [← v] at h5
        exact Int.not_le.1 fun hge => absurd h5 (Int.not_lt.2 (Int.mul_nonneg hge (Int.le_of_lt hp)))

theorem signed_opp (s : Bool) (m u : Nat) : signed (!s) m u = -signed s m u := by
  unfold signed; cases s <;> simp
theorem fv_sub {x y : Nat} {a b : Int} (hx : FV x a) (hy : FV y b) (hn : (a - b).natAbs ≤ 2 ^ 53) : ∃ r, floatBits .sub .f64 x y = some r ∧ FV r (a - b) := by
  obtain ⟨s, m, i, h1, h2, h3⟩ := hx
  obtain ⟨t, n, j, g1, g2, g3⟩ := hy
  have hb : -1074 ≤ min i j := by omega
  have g4 : signed (!t) n (j + 1074).toNat = (-b) * 2 ^ 1074 := by rw [signed_opp, g3, Int.neg_mul]
  have v : (signed s m (i - min i j).toNat + signed (!t) n (j - min i j).toNat) * 2 ^ (min i j + 1074).toNat = (a - b) * 2 ^ 1074 := by
    rw [Int.add_mul, read_val (by omega) hb h3, read_val (by omega) hb g4, ← Int.add_mul, ← Int.sub_eq_add_neg]
  generalize hT : signed s m (i - min i j).toNat + signed (!t) n (j - min i j).toNat = T at v
  have hp : (0 : Int) < 2 ^ (min i j + 1074).toNat := Int.pow_pos (by decide)
  refine ⟨Ieee.double.write (.number (if T = 0 then s && !t else decide (T < 0)) T.natAbs (min i j)), ?_, ?_⟩
  · show ((Ieee.double.read x).sum (Ieee.double.read y).opposite).map Ieee.double.write = _
    rw [h1, g1]
    show some _ = some _
    rw [hT]
  · refine fv_put (k := 1074) (by omega) hn ?_ ?_
    · exact cast_eq (w := 1074) (abs_eq (w := 1074) v)
    · intro hne
      exact sign_of v hp hne
theorem fv_mul {x y : Nat} {a b : Int} (hx : FV x a) (hy : FV y b) (hn : (a * b).natAbs ≤ 2 ^ 53) : ∃ r, floatBits .mul .f64 x y = some r ∧ FV r (a * b) := by
  obtain ⟨s, m, i, h1, h2, h3⟩ := hx
  obtain ⟨t, n, j, g1, g2, g3⟩ := hy
  refine ⟨Ieee.double.write (.number (s ^^ t) (m * n) (i + j)), ?_, ?_⟩
  · show ((Ieee.double.read x).product (Ieee.double.read y)).map Ieee.double.write = _
    rw [h1, g1]; rfl
  · obtain ⟨w, hw⟩ : ∃ w : Nat, w = 1074 := ⟨_, rfl⟩
    have e : (i + j + ((w + w : Nat) : Int)).toNat = (i + 1074).toNat + (j + 1074).toNat := by omega
    have h6 := signed_abs_eq h3
    have g6 := signed_abs_eq g3
    rw [← hw] at h6 g6
    refine fv_put (k := w + w) (by omega) hn ?_ ?_
    · rw [e, Int.natAbs_mul]
      refine cast_eq ?_
      rw [Nat.pow_add, Nat.pow_add]
      generalize 2 ^ w = X at h6 g6 ⊢
      generalize 2 ^ (i + 1074).toNat = A at h6 ⊢
      generalize 2 ^ (j + 1074).toNat = B at g6 ⊢
      calc m * n * (A * B) = (m * A) * (n * B) := by ac_rfl
        _ = a.natAbs * b.natAbs * (X * X) := by rw [h6, g6]; ac_rfl
    · intro hne
      have ha : a ≠ 0 := fun h => hne (by rw [h, Int.zero_mul])
      have hb : b ≠ 0 := fun h => hne (by rw [h, Int.mul_zero])
      have s1 := signed_sign h3 ha
      have s2 := signed_sign g3 hb
      cases s <;> cases t <;> simp at s1 s2 ⊢
      · exact Int.mul_nonneg (by omega) (by omega)
      · exact Int.mul_neg_of_pos_of_neg (by omega) s2
      · exact Int.mul_neg_of_neg_of_pos s1 (by omega)
      · exact Int.le_of_lt (Int.mul_pos_of_neg_of_neg s1 s2)
theorem fv_order {x y : Nat} {a b : Int} (hx : FV x a) (hy : FV y b) : Ieee.double.order x y = some (compare a b) := by
  obtain ⟨s, m, i, h1, h2, h3⟩ := hx
  obtain ⟨t, n, j, g1, g2, g3⟩ := hy
  have hb : -1074 ≤ min i j := by omega
  have v1 := read_val (base := min i j) (by omega) hb h3
  have v2 := read_val (base := min i j) (by omega) hb g3
  have hp : (0 : Int) < 2 ^ (min i j + 1074).toNat := Int.pow_pos (by decide)
  show (Ieee.double.read x).order (Ieee.double.read y) = _
  rw [h1, g1]
  show some (compare (signed s m (i - min i j).toNat) (signed t n (j - min i j).toNat)) = _
  generalize signed s m (i - min i j).toNat = A at v1 ⊢
  generalize signed t n (j - min i j).toNat = B at v2 ⊢
  have hX := p1074
  generalize (2 : Int) ^ (min i j + 1074).toNat = Y at v1 v2 hp
  generalize (2 : Int) ^ 1074 = X at v1 v2 hX
  congr 1
  have lt : A < B ↔ a < b := by
    constructor
    · intro h
      have := Int.mul_lt_mul_of_pos_right h hp
      rw [v1, v2] at this
      exact Int.lt_of_mul_lt_mul_right this (Int.le_of_lt hX)
    · intro h
      have := Int.mul_lt_mul_of_pos_right h hX
      rw [← v1, ← v2] at this
      exact Int.lt_of_mul_lt_mul_right this (Int.le_of_lt hp)
  have eq : A = B ↔ a = b := by
    constructor
    · intro h; subst h
      exact Int.eq_of_mul_eq_mul_right (by omega) (v1.symm.trans v2)
    · intro h; subst h
      exact Int.eq_of_mul_eq_mul_right (by omega) (v1.trans v2.symm)
  unfold compare instOrdInt compareOfLessAndEq
  simp only [lt, eq]

theorem read_neg (x : Nat) : Ieee.double.read (Go.Op.negFloat .f64 x) = (Ieee.double.read x).opposite := by
  have e1 : (Go.Op.negFloat .f64 x) % Ieee.double.signWeight = x % Ieee.double.signWeight := by
    show (x ^^^ 2 ^ 63) % 2 ^ 63 = x % 2 ^ 63
    rw [Nat.xor_mod_two_pow, Nat.mod_self, Nat.xor_zero]
  have e2 : (Go.Op.negFloat .f64 x / Ieee.double.signWeight % 2 == 1) = !(x / Ieee.double.signWeight % 2 == 1) := by
    show ((x ^^^ 2 ^ 63) / 2 ^ 63 % 2 == 1) = !(x / 2 ^ 63 % 2 == 1)
    rw [Nat.xor_div_two_pow, Nat.div_self (Nat.two_pow_pos 63)]
    generalize x / 2 ^ 63 = q
    have := Nat.xor_mod_two_pow (a := q) (b := 1) (n := 1)
    rw [Nat.pow_one] at this
    rw [this]
    rcases Nat.mod_two_eq_zero_or_one q with h | h <;> rw [h] <;> decide
  unfold Format.read
  dsimp only
  rw [e1, e2]
  split
  · rfl
  · split
    · rfl
    · split <;> rfl
theorem fv_neg {x : Nat} {a : Int} (hx : FV x a) : FV (Go.Op.negFloat .f64 x) (-a) := by
  obtain ⟨s, m, i, h1, h2, h3⟩ := hx
  refine ⟨!s, m, i, by rw [read_neg, h1]; rfl, h2, ?_⟩
  rw [signed_opp, h3, Int.neg_mul]
theorem cutZ (neg : Bool) (m d : Nat) : Toward.zero.cut neg (m * 2 ^ d) d = m := by
  have hp : 0 < 2 ^ d := Nat.two_pow_pos d
  unfold Toward.cut
  by_cases hm : m = 0
  · subst hm; simp
  · have hmin : min d ((m * 2 ^ d).log2 + 2) = d := by rw [log2_mul_pow hm]; omega
    simp only [hmin, Nat.shiftLeft_eq, Nat.one_mul]
    rw [Nat.mul_div_cancel _ hp]; rfl
theorem fv_toInt {x : Nat} {a : Int} (hx : FV x a) (ha : a.natAbs ≤ 2 ^ 53) : floatToIntVal .f64 x .i64 = some a := by
  obtain ⟨s, m, i, h1, h2, h3⟩ := hx
  have hX := p1074
  have h6 := signed_abs_eq h3
  have hc : Toward.zero.cut s (m <<< i.toNat) (-i).toNat = a.natAbs := by
    rw [Nat.shiftLeft_eq]
    rcases Int.lt_or_le i 0 with h | h
    · rw [show i.toNat = 0 by omega, Nat.pow_zero, Nat.mul_one]
      have : m = a.natAbs * 2 ^ (-i).toNat := by
        refine Nat.eq_of_mul_eq_mul_right (Nat.two_pow_pos (i + 1074).toNat) ?_
        rw [h6, Nat.mul_assoc, ← Nat.pow_add]; congr 2; omega
      rw [this]; exact cutZ s _ _
    · rw [show (-i).toNat = 0 by omega]
      have : m * 2 ^ i.toNat = a.natAbs := by
        obtain ⟨w, hw⟩ : ∃ w : Nat, w = 1074 := ⟨_, rfl⟩
        rw [← hw] at h6
        refine Nat.eq_of_mul_eq_mul_right (Nat.two_pow_pos w) ?_
        rw [← h6, Nat.mul_assoc, ← Nat.pow_add]; congr 2; omega
      rw [this]
      have := cutZ s a.natAbs 0
      rwa [Nat.pow_zero, Nat.mul_one] at this
  have ht : (Ieee.double.read x).toInt .zero = some a := by
    rw [h1]
    show some (signed s (Toward.zero.cut s (m <<< i.toNat) (-i).toNat) 0) = some a
    rw [hc]
    congr 1
    unfold signed
    rw [Nat.shiftLeft_zero]
    by_cases h0 : a = 0
    · subst h0; cases s <;> rfl
    · have hs := signed_sign h3 h0
      cases s with
      | true => have := hs.1 rfl; simp only [if_true]; omega
      | false => have : ¬ a < 0 := fun h => by cases hs.2 h
                 simp only [Bool.false_eq_true, if_false]; omega
  unfold floatToIntVal
  show (match (Ieee.double.read x).toInt .zero with | some n => if IntKind.i64.min ≤ n ∧ n ≤ IntKind.i64.max then some n else none | none => none) = some a
  rw [ht]
  have : IntKind.i64.min ≤ a ∧ a ≤ IntKind.i64.max := by
    show -9223372036854775808 ≤ a ∧ a ≤ 9223372036854775807
    omega
  simp only [this, and_self, if_true]

end Go.Rx

