/- The chapter of days: the law on order, as a function. -/
import Derived.Test.YtmoaahhlilaopaaDt6
namespace Go.Rx
open Go.Proofs
set_option linter.unusedSimpArgs false

def emDDI (a : (Int × Int × Int) × (Int × Int × Int) × Int) : List SV := [dSV a.1, dSV a.2.1, .int .i64 a.2.2]

set_option maxRecDepth 100000 in
theorem vc_order (a : (Int × Int × Int) × (Int × Int × Int) × Int) : (wpF ⟨81, ty3, [(10, daysC), (26, compareC), (27, leapC), (28, longC), (25, betweenC), (23, rightC), (17, textC)], false⟩ noAnn [] Try.f8 (emDDI a) (.bool true)) = (((((!true) = true) → ((true = false) ∧ (True))) ∧ (((!true) = false) → ((((!decide (lexC (a.fst.fst, a.fst.snd.fst, a.fst.snd.snd) (a.snd.fst.fst, a.snd.fst.snd.fst, a.snd.fst.snd.snd) = IntKind.i64.wrap ((0 : Int) - lexC (a.snd.fst.fst, a.snd.fst.snd.fst, a.snd.fst.snd.snd) (a.fst.fst, a.fst.snd.fst, a.fst.snd.snd)))) = true) → ((true = false) ∧ (True))) ∧ (((!decide (lexC (a.fst.fst, a.fst.snd.fst, a.fst.snd.snd) (a.snd.fst.fst, a.snd.fst.snd.fst, a.snd.fst.snd.snd) = IntKind.i64.wrap ((0 : Int) - lexC (a.snd.fst.fst, a.snd.fst.snd.fst, a.snd.fst.snd.snd) (a.fst.fst, a.fst.snd.fst, a.fst.snd.snd)))) = false) → ((((!decide (lexC (a.fst.fst, a.fst.snd.fst, a.fst.snd.snd) (a.snd.fst.fst, a.snd.fst.snd.fst, a.snd.fst.snd.snd) = (0 : Int)) == (decide (a.fst.fst = a.snd.fst.fst) && (decide (a.fst.snd.fst = a.snd.fst.snd.fst) && decide (a.fst.snd.snd = a.snd.fst.snd.snd)))) = true) → ((true = false) ∧ (True))) ∧ (((!decide (lexC (a.fst.fst, a.fst.snd.fst, a.fst.snd.snd) (a.snd.fst.fst, a.snd.fst.snd.fst, a.snd.fst.snd.snd) = (0 : Int)) == (decide (a.fst.fst = a.snd.fst.fst) && (decide (a.fst.snd.fst = a.snd.fst.snd.fst) && decide (a.fst.snd.snd = a.snd.fst.snd.snd)))) = false) → (((decide ((0 : Int) < a.snd.snd) = true) → (((decide (a.snd.snd < (10000 : Int)) = true) → ((((!leapS a.snd.snd == decide (longS a.snd.snd = (366 : Int))) = true) → ((true = false) ∧ (True))) ∧ (((!leapS a.snd.snd == decide (longS a.snd.snd = (366 : Int))) = false) → ((((!decide ((if betweenOk ((a.fst.fst, a.fst.snd.fst, a.fst.snd.snd), a.snd.fst.fst, a.snd.fst.snd.fst, a.snd.fst.snd.snd) = true then (0 : Int) else (30 : Int)) = (0 : Int))) = true) → ((((!rightS (a.fst.fst, a.fst.snd.fst, a.fst.snd.snd)) = true) → ((true = true) ∧ (True))) ∧ (((!rightS (a.fst.fst, a.fst.snd.fst, a.fst.snd.snd)) = false) → (((!rightS (a.snd.fst.fst, a.snd.fst.snd.fst, a.snd.fst.snd.snd)) = true) ∧ (True))))) ∧ (((!decide ((if betweenOk ((a.fst.fst, a.fst.snd.fst, a.fst.snd.snd), a.snd.fst.fst, a.snd.fst.snd.fst, a.snd.fst.snd.snd) = true then (0 : Int) else (30 : Int)) = (0 : Int))) = false) → ((((decide (lexC (a.fst.fst, a.fst.snd.fst, a.fst.snd.snd) (a.snd.fst.fst, a.snd.fst.snd.fst, a.snd.fst.snd.snd) < (0 : Int)) == decide ((0 : Int) < if betweenOk ((a.fst.fst, a.fst.snd.fst, a.fst.snd.snd), a.snd.fst.fst, a.snd.fst.snd.fst, a.snd.fst.snd.snd) = true then numS (a.snd.fst.fst, a.snd.fst.snd.fst, a.snd.fst.snd.snd) - numS (a.fst.fst, a.fst.snd.fst, a.fst.snd.snd) else (0 : Int))) = true) → ((((decide (lexC (a.fst.fst, a.fst.snd.fst, a.fst.snd.snd) (a.snd.fst.fst, a.snd.fst.snd.fst, a.snd.fst.snd.snd) = (0 : Int)) == decide ((if betweenOk ((a.fst.fst, a.fst.snd.fst, a.fst.snd.snd), a.snd.fst.fst, a.snd.fst.snd.fst, a.snd.fst.snd.snd) = true then numS (a.snd.fst.fst, a.snd.fst.snd.fst, a.snd.fst.snd.snd) - numS (a.fst.fst, a.fst.snd.fst, a.fst.snd.snd) else (0 : Int)) = (0 : Int))) = true) → (((Op.bytesLess (textS (a.fst.fst, a.fst.snd.fst, a.fst.snd.snd)) (textS (a.snd.fst.fst, a.snd.fst.snd.fst, a.snd.fst.snd.snd)) == decide (lexC (a.fst.fst, a.fst.snd.fst, a.fst.snd.snd) (a.snd.fst.fst, a.snd.fst.snd.fst, a.snd.fst.snd.snd) < (0 : Int))) = true) ∧ (True))) ∧ (((decide (lexC (a.fst.fst, a.fst.snd.fst, a.fst.snd.snd) (a.snd.fst.fst, a.snd.fst.snd.fst, a.snd.fst.snd.snd) = (0 : Int)) == decide ((if betweenOk ((a.fst.fst, a.fst.snd.fst, a.fst.snd.snd), a.snd.fst.fst, a.snd.fst.snd.fst, a.snd.fst.snd.snd) = true then numS (a.snd.fst.fst, a.snd.fst.snd.fst, a.snd.fst.snd.snd) - numS (a.fst.fst, a.fst.snd.fst, a.fst.snd.snd) else (0 : Int)) = (0 : Int))) = false) → ((true = false) ∧ (True))))) ∧ (((decide (lexC (a.fst.fst, a.fst.snd.fst, a.fst.snd.snd) (a.snd.fst.fst, a.snd.fst.snd.fst, a.snd.fst.snd.snd) < (0 : Int)) == decide ((0 : Int) < if betweenOk ((a.fst.fst, a.fst.snd.fst, a.fst.snd.snd), a.snd.fst.fst, a.snd.fst.snd.fst, a.snd.fst.snd.snd) = true then numS (a.snd.fst.fst, a.snd.fst.snd.fst, a.snd.fst.snd.snd) - numS (a.fst.fst, a.fst.snd.fst, a.fst.snd.snd) else (0 : Int))) = false) → ((true = false) ∧ (True))))))))) ∧ ((decide (a.snd.snd < (10000 : Int)) = false) → ((((!decide ((if betweenOk ((a.fst.fst, a.fst.snd.fst, a.fst.snd.snd), a.snd.fst.fst, a.snd.fst.snd.fst, a.snd.fst.snd.snd) = true then (0 : Int) else (30 : Int)) = (0 : Int))) = true) → ((((!rightS (a.fst.fst, a.fst.snd.fst, a.fst.snd.snd)) = true) → ((true = true) ∧ (True))) ∧ (((!rightS (a.fst.fst, a.fst.snd.fst, a.fst.snd.snd)) = false) → (((!rightS (a.snd.fst.fst, a.snd.fst.snd.fst, a.snd.fst.snd.snd)) = true) ∧ (True))))) ∧ (((!decide ((if betweenOk ((a.fst.fst, a.fst.snd.fst, a.fst.snd.snd), a.snd.fst.fst, a.snd.fst.snd.fst, a.snd.fst.snd.snd) = true then (0 : Int) else (30 : Int)) = (0 : Int))) = false) → ((((decide (lexC (a.fst.fst, a.fst.snd.fst, a.fst.snd.snd) (a.snd.fst.fst, a.snd.fst.snd.fst, a.snd.fst.snd.snd) < (0 : Int)) == decide ((0 : Int) < if betweenOk ((a.fst.fst, a.fst.snd.fst, a.fst.snd.snd), a.snd.fst.fst, a.snd.fst.snd.fst, a.snd.fst.snd.snd) = true then numS (a.snd.fst.fst, a.snd.fst.snd.fst, a.snd.fst.snd.snd) - numS (a.fst.fst, a.fst.snd.fst, a.fst.snd.snd) else (0 : Int))) = true) → ((((decide (lexC (a.fst.fst, a.fst.snd.fst, a.fst.snd.snd) (a.snd.fst.fst, a.snd.fst.snd.fst, a.snd.fst.snd.snd) = (0 : Int)) == decide ((if betweenOk ((a.fst.fst, a.fst.snd.fst, a.fst.snd.snd), a.snd.fst.fst, a.snd.fst.snd.fst, a.snd.fst.snd.snd) = true then numS (a.snd.fst.fst, a.snd.fst.snd.fst, a.snd.fst.snd.snd) - numS (a.fst.fst, a.fst.snd.fst, a.fst.snd.snd) else (0 : Int)) = (0 : Int))) = true) → (((Op.bytesLess (textS (a.fst.fst, a.fst.snd.fst, a.fst.snd.snd)) (textS (a.snd.fst.fst, a.snd.fst.snd.fst, a.snd.fst.snd.snd)) == decide (lexC (a.fst.fst, a.fst.snd.fst, a.fst.snd.snd) (a.snd.fst.fst, a.snd.fst.snd.fst, a.snd.fst.snd.snd) < (0 : Int))) = true) ∧ (True))) ∧ (((decide (lexC (a.fst.fst, a.fst.snd.fst, a.fst.snd.snd) (a.snd.fst.fst, a.snd.fst.snd.fst, a.snd.fst.snd.snd) = (0 : Int)) == decide ((if betweenOk ((a.fst.fst, a.fst.snd.fst, a.fst.snd.snd), a.snd.fst.fst, a.snd.fst.snd.fst, a.snd.fst.snd.snd) = true then numS (a.snd.fst.fst, a.snd.fst.snd.fst, a.snd.fst.snd.snd) - numS (a.fst.fst, a.fst.snd.fst, a.fst.snd.snd) else (0 : Int)) = (0 : Int))) = false) → ((true = false) ∧ (True))))) ∧ (((decide (lexC (a.fst.fst, a.fst.snd.fst, a.fst.snd.snd) (a.snd.fst.fst, a.snd.fst.snd.fst, a.snd.fst.snd.snd) < (0 : Int)) == decide ((0 : Int) < if betweenOk ((a.fst.fst, a.fst.snd.fst, a.fst.snd.snd), a.snd.fst.fst, a.snd.fst.snd.fst, a.snd.fst.snd.snd) = true then numS (a.snd.fst.fst, a.snd.fst.snd.fst, a.snd.fst.snd.snd) - numS (a.fst.fst, a.fst.snd.fst, a.fst.snd.snd) else (0 : Int))) = false) → ((true = false) ∧ (True))))))))) ∧ ((decide ((0 : Int) < a.snd.snd) = false) → ((((!decide ((if betweenOk ((a.fst.fst, a.fst.snd.fst, a.fst.snd.snd), a.snd.fst.fst, a.snd.fst.snd.fst, a.snd.fst.snd.snd) = true then (0 : Int) else (30 : Int)) = (0 : Int))) = true) → ((((!rightS (a.fst.fst, a.fst.snd.fst, a.fst.snd.snd)) = true) → ((true = true) ∧ (True))) ∧ (((!rightS (a.fst.fst, a.fst.snd.fst, a.fst.snd.snd)) = false) → (((!rightS (a.snd.fst.fst, a.snd.fst.snd.fst, a.snd.fst.snd.snd)) = true) ∧ (True))))) ∧ (((!decide ((if betweenOk ((a.fst.fst, a.fst.snd.fst, a.fst.snd.snd), a.snd.fst.fst, a.snd.fst.snd.fst, a.snd.fst.snd.snd) = true then (0 : Int) else (30 : Int)) = (0 : Int))) = false) → ((((decide (lexC (a.fst.fst, a.fst.snd.fst, a.fst.snd.snd) (a.snd.fst.fst, a.snd.fst.snd.fst, a.snd.fst.snd.snd) < (0 : Int)) == decide ((0 : Int) < if betweenOk ((a.fst.fst, a.fst.snd.fst, a.fst.snd.snd), a.snd.fst.fst, a.snd.fst.snd.fst, a.snd.fst.snd.snd) = true then numS (a.snd.fst.fst, a.snd.fst.snd.fst, a.snd.fst.snd.snd) - numS (a.fst.fst, a.fst.snd.fst, a.fst.snd.snd) else (0 : Int))) = true) → ((((decide (lexC (a.fst.fst, a.fst.snd.fst, a.fst.snd.snd) (a.snd.fst.fst, a.snd.fst.snd.fst, a.snd.fst.snd.snd) = (0 : Int)) == decide ((if betweenOk ((a.fst.fst, a.fst.snd.fst, a.fst.snd.snd), a.snd.fst.fst, a.snd.fst.snd.fst, a.snd.fst.snd.snd) = true then numS (a.snd.fst.fst, a.snd.fst.snd.fst, a.snd.fst.snd.snd) - numS (a.fst.fst, a.fst.snd.fst, a.fst.snd.snd) else (0 : Int)) = (0 : Int))) = true) → (((Op.bytesLess (textS (a.fst.fst, a.fst.snd.fst, a.fst.snd.snd)) (textS (a.snd.fst.fst, a.snd.fst.snd.fst, a.snd.fst.snd.snd)) == decide (lexC (a.fst.fst, a.fst.snd.fst, a.fst.snd.snd) (a.snd.fst.fst, a.snd.fst.snd.fst, a.snd.fst.snd.snd) < (0 : Int))) = true) ∧ (True))) ∧ (((decide (lexC (a.fst.fst, a.fst.snd.fst, a.fst.snd.snd) (a.snd.fst.fst, a.snd.fst.snd.fst, a.snd.fst.snd.snd) = (0 : Int)) == decide ((if betweenOk ((a.fst.fst, a.fst.snd.fst, a.fst.snd.snd), a.snd.fst.fst, a.snd.fst.snd.fst, a.snd.fst.snd.snd) = true then numS (a.snd.fst.fst, a.snd.fst.snd.fst, a.snd.fst.snd.snd) - numS (a.fst.fst, a.fst.snd.fst, a.fst.snd.snd) else (0 : Int)) = (0 : Int))) = false) → ((true = false) ∧ (True))))) ∧ (((decide (lexC (a.fst.fst, a.fst.snd.fst, a.fst.snd.snd) (a.snd.fst.fst, a.snd.fst.snd.fst, a.snd.fst.snd.snd) < (0 : Int)) == decide ((0 : Int) < if betweenOk ((a.fst.fst, a.fst.snd.fst, a.fst.snd.snd), a.snd.fst.fst, a.snd.fst.snd.fst, a.snd.fst.snd.snd) = true then numS (a.snd.fst.fst, a.snd.fst.snd.fst, a.snd.fst.snd.snd) - numS (a.fst.fst, a.fst.snd.fst, a.fst.snd.snd) else (0 : Int))) = false) → ((true = false) ∧ (True))))))))))))))) := by kernel_rfl
theorem lex_anti (a b : Int × Int × Int) : lexC a b = 0 - lexC b a ∧ (lexC a b = 0 ↔ a = b) ∧ -1 ≤ lexC b a ∧ lexC b a ≤ 1 := by
  obtain ⟨y, m, d⟩ := a
  obtain ⟨y', m', d'⟩ := b
  simp only [lexC, Prod.mk.injEq]
  refine ⟨?_, ?_, ?_, ?_⟩
  all_goals repeat' split
  all_goals omega

/-- The order of two days is that of their numbers. -/
theorem lex_less {a b : Int × Int × Int} (ha : rightS a = true) (hb : rightS b = true) (h : lexC a b < 0) : numS a < numS b := by
  obtain ⟨y, m, d⟩ := a
  obtain ⟨y', m', d'⟩ := b
  obtain ⟨h1, h2, h3, h4, h5, h6, h7⟩ := right_in ha
  obtain ⟨g1, g2, g3, g4, g5, g6, g7⟩ := right_in hb
  obtain ⟨a1, a2, a3⟩ := num_in ha
  obtain ⟨b1, b2, b3⟩ := num_in hb
  have n1 := monthsS_in (y := y') (m := m') ⟨g3, g4⟩
  have hcase : y < y' ∨ (y = y' ∧ m < m') ∨ (y = y' ∧ m = m' ∧ d < d') := by
    simp only [lexC] at h
    repeat' split at h
    all_goals omega
  rcases hcase with h | ⟨rfl, h⟩ | ⟨rfl, rfl, h⟩
  · have := years_less (y := y) (z := y') ⟨h1, h⟩; omega
  · obtain ⟨k, rfl, k1, k2⟩ := nat_of ⟨h3, h4⟩
    obtain ⟨j, rfl, j1, j2⟩ := nat_of ⟨g3, g4⟩
    rw [monthsS_B, lastS_B ⟨h1, h2⟩ (by omega)] at *
    have := months_less (leapS y) k k2 j j2 k1 (by omega)
    omega
  · simp only [numS]; omega

theorem lex_num {a b : Int × Int × Int} (ha : rightS a = true) (hb : rightS b = true) : (lexC a b < 0 ↔ numS a < numS b) := by
  refine ⟨lex_less ha hb, fun h => ?_⟩
  obtain ⟨l1, l2, l3, l4⟩ := lex_anti a b
  apply Classical.byContradiction
  intro hc
  by_cases he : lexC a b = 0
  · have := l2.1 he
    subst this
    omega
  · have := lex_less hb ha (by omega)
    omega

/-- .. and that of their texts. -/
theorem bytesLess_app (p : List UInt8) (u v : List UInt8) : Op.bytesLess (p ++ u) (p ++ v) = Op.bytesLess u v := by
  induction p with
  | nil => rfl
  | cons c r ih => simp [Op.bytesLess, ih, UInt8.lt_irrefl]

theorem u8_less {i j : Int} (hi : 0 ≤ i ∧ i ≤ 200) (hj : 0 ≤ j ∧ j ≤ 200) : decide (UInt8.ofNat i.toNat < UInt8.ofNat j.toNat) = decide (i < j) ∧ (UInt8.ofNat i.toNat == UInt8.ofNat j.toNat) = decide (i = j) := by
  have h1 : (UInt8.ofNat i.toNat).toNat = i.toNat := by simp; omega
  have h2 : (UInt8.ofNat j.toNat).toNat = j.toNat := by simp; omega
  refine ⟨?_, ?_⟩
  · rw [decide_eq_decide, UInt8.lt_iff_toNat_lt, h1, h2]; omega
  · rw [Bool.eq_iff_iff, beq_iff_eq, decide_eq_true_eq, ← UInt8.toNat_inj, h1, h2]; omega

/-- Two numbers of two digits each, ahead of what follows. -/
theorem two_less {n k : Int} (_hn : 0 ≤ n ∧ n ≤ 9999) (_hk : 0 ≤ k ∧ k ≤ 9999) (u v : List UInt8) :
    Op.bytesLess (twoS n ++ u) (twoS k ++ v) = (decide (n % 100 < k % 100) || (decide (n % 100 = k % 100) && Op.bytesLess u v)) := by
  obtain ⟨a1, a2⟩ := u8_less (i := 48 + n / 10 % 10) (j := 48 + k / 10 % 10) (by omega) (by omega)
  obtain ⟨b1, b2⟩ := u8_less (i := 48 + n % 10) (j := 48 + k % 10) (by omega) (by omega)
  simp only [twoS, List.cons_append, List.nil_append, Op.bytesLess, a1, a2, b1, b2]
  by_cases h : n % 100 < k % 100
  · simp only [h, decide_true, Bool.true_or, Bool.or_eq_true, Bool.and_eq_true, decide_eq_true_eq]
    omega
  · by_cases h2 : n % 100 = k % 100
    · simp [h2, show n / 10 % 10 = k / 10 % 10 by omega, show n % 10 = k % 10 by omega]
    · simp [h, h2]
      omega

theorem lex_text {a b : Int × Int × Int} (ha : rightS a = true) (hb : rightS b = true) : Op.bytesLess (textS a) (textS b) = decide (lexC a b < 0) := by
  obtain ⟨y, m, d⟩ := a
  obtain ⟨y', m', d'⟩ := b
  obtain ⟨h1, h2, h3, h4, h5, h6, h7⟩ := right_in ha
  obtain ⟨g1, g2, g3, g4, g5, g6, g7⟩ := right_in hb
  simp only [textS, ha, hb, if_true, List.append_assoc]
  rw [two_less (by omega) (by omega), two_less (by omega) (by omega), bytesLess_app, two_less (by omega) (by omega), bytesLess_app]
  have e : Op.bytesLess (twoS d) (twoS d') = (decide (d % 100 < d' % 100) || (decide (d % 100 = d' % 100) && Op.bytesLess [] [])) := by
    have := two_less (n := d) (k := d') (by omega) (by omega) [] []
    simpa using this
  rw [e]
  simp only [Op.bytesLess, Bool.and_false, Bool.or_false]
  rw [Bool.eq_iff_iff]
  simp only [Bool.or_eq_true, Bool.and_eq_true, decide_eq_true_eq, lexC]
  constructor
  · intro h
    repeat' split
    all_goals omega
  · intro h
    repeat' split at h
    all_goals omega

theorem order_ok (a : (Int × Int × Int) × (Int × Int × Int) × Int) : FnOK Try.prog 8 (emDDI a) (.bool true) := by
  refine fnOK (cxOk (lit := false) (nt := 81) mixed3 ty3_ok (.cons days_known (.cons compare_known (.cons leap_known (.cons long_known (.cons between_known (.cons rright_known (.cons text_known .nil)))))))) Try.func8 (by kernel_rfl) (An := noAnn) (labs := []) (by kernel_rfl) ?_
  rw [vc_order]
  obtain ⟨a, b, n⟩ := a
  have e1 : (a.1, a.2.1, a.2.2) = a := rfl
  have e2 : (b.1, b.2.1, b.2.2) = b := rfl
  dsimp only
  rw [e1, e2]
  obtain ⟨l1, l2, l3, l4⟩ := lex_anti a b
  have hz : decide (lexC a b = 0) = (decide (a.1 = b.1) && (decide (a.2.1 = b.2.1) && decide (a.2.2 = b.2.2))) := by
    rw [← Bool.decide_and, ← Bool.decide_and]
    simp only [decide_eq_decide]
    rw [l2, Prod.ext_iff, Prod.ext_iff]
  have hl : leapS n = decide (longS n = 366) := by
    simp only [longS]
    by_cases h : leapS n = true <;> simp [h]
  rw [wrapN (by omega), ← l1, ← hz, ← hl]
  have key : betweenOk (a, b) = true → decide (lexC a b < 0) = decide (0 < numS b - numS a) ∧ decide (lexC a b = 0) = decide (numS b - numS a = 0) ∧ Op.bytesLess (textS a) (textS b) = decide (lexC a b < 0) := by
    intro h
    simp only [betweenOk, Bool.and_eq_true] at h
    have k1 := lex_num h.1 h.2
    have k2 := lex_num h.2 h.1
    refine ⟨by rw [decide_eq_decide, k1]; omega, ?_, lex_text h.1 h.2⟩
    rw [decide_eq_decide]
    omega
  cases hb : betweenOk (a, b) with
  | true =>
    obtain ⟨k1, k2, k3⟩ := key hb
    simp [k1, k2, k3]
  | false =>
    simp only [betweenOk, Bool.and_eq_false_iff] at hb
    rcases hb with h | h <;> simp [h]
end Go.Rx
