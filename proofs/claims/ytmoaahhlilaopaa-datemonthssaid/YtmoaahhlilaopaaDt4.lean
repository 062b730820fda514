/- The chapter of days: the day of a number. -/
import Derived.Test.YtmoaahhlilaopaaDt3
namespace Go.Rx
open Go.Proofs
set_option linter.unusedSimpArgs false

open Classical in
/-- The day of a number. -/
noncomputable def ofS (n : Int) : Int × Int × Int := if h : ∃ a, rightS a = true ∧ numS a = n then h.choose else (0, 0, 0)
def thereS (n : Int) : Bool := decide (0 ≤ n) && decide (n < 109573)
noncomputable def ofC : Con := conOf shI (fun _ => none) (fun n => .tup [dSV (ofS n), .int .i64 (if thereS n = true then 0 else 30)])
def inR (n : Int) : Prop := -9223372036854775808 ≤ n ∧ n ≤ 9223372036854775807
noncomputable def rofC : Con := conOf shI (fun n => some (Ob (inR n))) (fun n => .tup [dSV (ofS n), .bool (thereS n)])

def zeroD (c : Nat) : Nat × Chunk := (c, .box 23 [.int .i64 0, .int .i64 0, .int .i64 0])
def inYear (n y : Int) : Prop := 1900 ≤ y ∧ y ≤ 2199 ∧ yearsS y ≤ n ∧ n < yearsS (y + 1)
def inMonth (n y m : Int) : Prop := 1 ≤ m ∧ m ≤ 12 ∧ monthsS y m ≤ n - yearsS y
def ofAn (n : Int) : Nat → Option Ann
  | 0 => some ⟨Int, fun y => ⟨[(0, .int .i64 n), (2, .ptr 2 0), (4, .ptr 4 0)], [zeroD 2, boxD 4 (y, 1, 1)]⟩, fun y => 1900 ≤ y ∧ y ≤ 2199 ∧ yearsS y ≤ n, fun y => (2199 - y).toNat, [0, 2, 4], [2, 4], []⟩
  | 2 => some ⟨Int × Int, fun a => ⟨[(2, .ptr 2 0), (4, .ptr 4 0), (9, .int .i64 (n - yearsS a.1 - monthsS a.1 a.2))], [zeroD 2, boxD 4 (a.1, a.2, 1)]⟩, fun a => inYear n a.1 ∧ inMonth n a.1 a.2, fun a => (12 - a.2).toNat, [2, 4, 9], [2, 4], []⟩
  | _ => none
def rofAn (n : Int) : Nat → Option Ann
  | 0 => some ⟨Int, fun y => ⟨[(0, .int .i64 (n - yearsS y)), (2, .ptr 2 0), (4, .int .i64 y)], [zeroD 2]⟩, fun y => 1900 ≤ y ∧ y ≤ 2200 ∧ yearsS y ≤ n, fun y => (2200 - y).toNat, [0, 2, 4], [2], []⟩
  | 2 => some ⟨Int × Int, fun a => ⟨[(0, .int .i64 (n - yearsS a.1 - monthsS a.1 a.2)), (2, .ptr 2 0), (4, .int .i64 a.1), (5, .int .i64 a.2)], [zeroD 2]⟩, fun a => inYear n a.1 ∧ inMonth n a.1 a.2, fun a => (12 - a.2).toNat, [0, 2, 4, 5], [2], []⟩
  | _ => none

set_option maxRecDepth 100000 in
theorem vc_of (n : Int) : (wpF ⟨71, ty3, [(11, numberC), (15, lastC)], false⟩ (ofAn n) [] Try.f18 (emI n) (.tup [dSV (ofS n), .int .i64 (if thereS n = true then 0 else 30)])) = ((((decide (n < (0 : Int)) = true) → (((0 : Int) = (ofS n).fst) ∧ (((0 : Int) = (ofS n).snd.fst) ∧ (((0 : Int) = (ofS n).snd.snd) ∧ (((30 : Int) = if thereS n = true then (0 : Int) else (30 : Int)) ∧ (True)))))) ∧ ((decide (n < (0 : Int)) = false) → (((decide ((109573 : Int) ≤ n) = true) → (((0 : Int) = (ofS n).fst) ∧ (((0 : Int) = (ofS n).snd.fst) ∧ (((0 : Int) = (ofS n).snd.snd) ∧ (((30 : Int) = if thereS n = true then (0 : Int) else (30 : Int)) ∧ (True)))))) ∧ ((decide ((109573 : Int) ≤ n) = false) → (Ob (((366 : Int) ≠ (0 : Int))) ∧ ((∃ (x1 : Int), ((n = n) ∧ (((0 : Int) = (0 : Int)) ∧ (((0 : Int) = (0 : Int)) ∧ (((0 : Int) = (0 : Int)) ∧ ((IntKind.i64.wrap ((1900 : Int) + IntKind.i64.wrap (n.tdiv (366 : Int))) = x1) ∧ (((1 : Int) = (1 : Int)) ∧ (((1 : Int) = (1 : Int)) ∧ ((((1900 : Int) ≤ x1) ∧ ((x1 ≤ (2199 : Int)) ∧ (yearsS x1 ≤ n))) ∧ ((True) ∧ (True))))))))))) ∧ ∀ (x2 : Int), ((((1900 : Int) ≤ x2) ∧ ((x2 ≤ (2199 : Int)) ∧ (yearsS x2 ≤ n))) → (((decide ((x2, (1 : Int), (1 : Int)).fst < (2199 : Int)) = true) → (((decide (n < if rightS (IntKind.i64.wrap ((x2, (1 : Int), (1 : Int)).fst + (1 : Int)), (1 : Int), (1 : Int)) = true then numS (IntKind.i64.wrap ((x2, (1 : Int), (1 : Int)).fst + (1 : Int)), (1 : Int), (1 : Int)) else (0 : Int)) = true) → ((∃ (x3 : Int × Int), ((IntKind.i64.wrap (n - if rightS ((x2, (1 : Int), (1 : Int)).fst, (x2, (1 : Int), (1 : Int)).snd.fst, (x2, (1 : Int), (1 : Int)).snd.snd) = true then numS (x2, (1 : Int), (1 : Int)) else (0 : Int)) = n - yearsS x3.fst - monthsS x3.fst x3.snd) ∧ (((0 : Int) = (0 : Int)) ∧ (((0 : Int) = (0 : Int)) ∧ (((0 : Int) = (0 : Int)) ∧ ((x2 = x3.fst) ∧ (((1 : Int) = x3.snd) ∧ (((1 : Int) = (1 : Int)) ∧ (((inYear n x3.fst) ∧ (inMonth n x3.fst x3.snd)) ∧ ((True) ∧ (True))))))))))) ∧ ∀ (x4 : Int × Int), (((inYear n x4.fst) ∧ (inMonth n x4.fst x4.snd)) → (((decide (lastS ((x4.fst, x4.snd, (1 : Int)).fst, (x4.fst, x4.snd, (1 : Int)).snd.fst).fst ((x4.fst, x4.snd, (1 : Int)).fst, (x4.fst, x4.snd, (1 : Int)).snd.fst).snd ≤ n - yearsS x4.fst - monthsS x4.fst x4.snd) = true) → (∃ (x5 : Int × Int), ((IntKind.i64.wrap (n - yearsS x4.fst - monthsS x4.fst x4.snd - lastS x4.fst x4.snd) = n - yearsS x5.fst - monthsS x5.fst x5.snd) ∧ (((0 : Int) = (0 : Int)) ∧ (((0 : Int) = (0 : Int)) ∧ (((0 : Int) = (0 : Int)) ∧ ((x4.fst = x5.fst) ∧ ((IntKind.i64.wrap (x4.snd + (1 : Int)) = x5.snd) ∧ (((1 : Int) = (1 : Int)) ∧ (((inYear n x5.fst) ∧ (inMonth n x5.fst x5.snd)) ∧ ((((12 : Int) - x5.snd).toNat < ((12 : Int) - x4.snd).toNat) ∧ (True)))))))))))) ∧ ((decide (lastS ((x4.fst, x4.snd, (1 : Int)).fst, (x4.fst, x4.snd, (1 : Int)).snd.fst).fst ((x4.fst, x4.snd, (1 : Int)).fst, (x4.fst, x4.snd, (1 : Int)).snd.fst).snd ≤ n - yearsS x4.fst - monthsS x4.fst x4.snd) = false) → ((x4.fst = (ofS n).fst) ∧ ((x4.snd = (ofS n).snd.fst) ∧ ((IntKind.i64.wrap ((1 : Int) + (n - yearsS x4.fst - monthsS x4.fst x4.snd)) = (ofS n).snd.snd) ∧ (((0 : Int) = if thereS n = true then (0 : Int) else (30 : Int)) ∧ (True)))))))))) ∧ ((decide (n < if rightS (IntKind.i64.wrap ((x2, (1 : Int), (1 : Int)).fst + (1 : Int)), (1 : Int), (1 : Int)) = true then numS (IntKind.i64.wrap ((x2, (1 : Int), (1 : Int)).fst + (1 : Int)), (1 : Int), (1 : Int)) else (0 : Int)) = false) → (∃ (x6 : Int), ((n = n) ∧ (((0 : Int) = (0 : Int)) ∧ (((0 : Int) = (0 : Int)) ∧ (((0 : Int) = (0 : Int)) ∧ ((IntKind.i64.wrap (x2 + (1 : Int)) = x6) ∧ (((1 : Int) = (1 : Int)) ∧ (((1 : Int) = (1 : Int)) ∧ ((((1900 : Int) ≤ x6) ∧ ((x6 ≤ (2199 : Int)) ∧ (yearsS x6 ≤ n))) ∧ ((((2199 : Int) - x6).toNat < ((2199 : Int) - x2).toNat) ∧ (True)))))))))))))) ∧ ((decide ((x2, (1 : Int), (1 : Int)).fst < (2199 : Int)) = false) → ((∃ (x7 : Int × Int), ((IntKind.i64.wrap (n - if rightS ((x2, (1 : Int), (1 : Int)).fst, (x2, (1 : Int), (1 : Int)).snd.fst, (x2, (1 : Int), (1 : Int)).snd.snd) = true then numS (x2, (1 : Int), (1 : Int)) else (0 : Int)) = n - yearsS x7.fst - monthsS x7.fst x7.snd) ∧ (((0 : Int) = (0 : Int)) ∧ (((0 : Int) = (0 : Int)) ∧ (((0 : Int) = (0 : Int)) ∧ ((x2 = x7.fst) ∧ (((1 : Int) = x7.snd) ∧ (((1 : Int) = (1 : Int)) ∧ (((inYear n x7.fst) ∧ (inMonth n x7.fst x7.snd)) ∧ ((True) ∧ (True))))))))))) ∧ ∀ (x8 : Int × Int), (((inYear n x8.fst) ∧ (inMonth n x8.fst x8.snd)) → (((decide (lastS ((x8.fst, x8.snd, (1 : Int)).fst, (x8.fst, x8.snd, (1 : Int)).snd.fst).fst ((x8.fst, x8.snd, (1 : Int)).fst, (x8.fst, x8.snd, (1 : Int)).snd.fst).snd ≤ n - yearsS x8.fst - monthsS x8.fst x8.snd) = true) → (∃ (x9 : Int × Int), ((IntKind.i64.wrap (n - yearsS x8.fst - monthsS x8.fst x8.snd - lastS x8.fst x8.snd) = n - yearsS x9.fst - monthsS x9.fst x9.snd) ∧ (((0 : Int) = (0 : Int)) ∧ (((0 : Int) = (0 : Int)) ∧ (((0 : Int) = (0 : Int)) ∧ ((x8.fst = x9.fst) ∧ ((IntKind.i64.wrap (x8.snd + (1 : Int)) = x9.snd) ∧ (((1 : Int) = (1 : Int)) ∧ (((inYear n x9.fst) ∧ (inMonth n x9.fst x9.snd)) ∧ ((((12 : Int) - x9.snd).toNat < ((12 : Int) - x8.snd).toNat) ∧ (True)))))))))))) ∧ ((decide (lastS ((x8.fst, x8.snd, (1 : Int)).fst, (x8.fst, x8.snd, (1 : Int)).snd.fst).fst ((x8.fst, x8.snd, (1 : Int)).fst, (x8.fst, x8.snd, (1 : Int)).snd.fst).snd ≤ n - yearsS x8.fst - monthsS x8.fst x8.snd) = false) → ((x8.fst = (ofS n).fst) ∧ ((x8.snd = (ofS n).snd.fst) ∧ ((IntKind.i64.wrap ((1 : Int) + (n - yearsS x8.fst - monthsS x8.fst x8.snd)) = (ofS n).snd.snd) ∧ (((0 : Int) = if thereS n = true then (0 : Int) else (30 : Int)) ∧ (True))))))))))))))))))) := by kernel_rfl
set_option maxRecDepth 100000 in
theorem vc_rof (n : Int) : (wpF ⟨39, ty3, [(28, longC), (16, monthC)], false⟩ (rofAn n) [] Try.f19 (emI n) (.tup [dSV (ofS n), .bool (thereS n)])) = ((((decide (n < (0 : Int)) = true) → (((0 : Int) = (ofS n).fst) ∧ (((0 : Int) = (ofS n).snd.fst) ∧ (((0 : Int) = (ofS n).snd.snd) ∧ ((thereS n = false) ∧ (True)))))) ∧ ((decide (n < (0 : Int)) = false) → ((∃ (x1 : Int), ((n = n - yearsS x1) ∧ (((1900 : Int) = x1) ∧ (((0 : Int) = (0 : Int)) ∧ (((0 : Int) = (0 : Int)) ∧ (((0 : Int) = (0 : Int)) ∧ ((((1900 : Int) ≤ x1) ∧ ((x1 ≤ (2200 : Int)) ∧ (yearsS x1 ≤ n))) ∧ ((True) ∧ (True))))))))) ∧ ∀ (x2 : Int), ((((1900 : Int) ≤ x2) ∧ ((x2 ≤ (2200 : Int)) ∧ (yearsS x2 ≤ n))) → (((decide (x2 ≤ (2199 : Int)) = true) → (((decide (longS x2 ≤ n - yearsS x2) = true) → (∃ (x3 : Int), ((IntKind.i64.wrap (n - yearsS x2 - longS x2) = n - yearsS x3) ∧ ((IntKind.i64.wrap (x2 + (1 : Int)) = x3) ∧ (((0 : Int) = (0 : Int)) ∧ (((0 : Int) = (0 : Int)) ∧ (((0 : Int) = (0 : Int)) ∧ ((((1900 : Int) ≤ x3) ∧ ((x3 ≤ (2200 : Int)) ∧ (yearsS x3 ≤ n))) ∧ ((((2200 : Int) - x3).toNat < ((2200 : Int) - x2).toNat) ∧ (True)))))))))) ∧ ((decide (longS x2 ≤ n - yearsS x2) = false) → ((∃ (x4 : Int × Int), ((n - yearsS x2 = n - yearsS x4.fst - monthsS x4.fst x4.snd) ∧ ((x2 = x4.fst) ∧ (((1 : Int) = x4.snd) ∧ (((0 : Int) = (0 : Int)) ∧ (((0 : Int) = (0 : Int)) ∧ (((0 : Int) = (0 : Int)) ∧ (((inYear n x4.fst) ∧ (inMonth n x4.fst x4.snd)) ∧ ((True) ∧ (True)))))))))) ∧ ∀ (x5 : Int × Int), (((inYear n x5.fst) ∧ (inMonth n x5.fst x5.snd)) → (((decide (monthS (x5.fst, x5.snd).fst (x5.fst, x5.snd).snd ≤ n - yearsS x5.fst - monthsS x5.fst x5.snd) = true) → (∃ (x6 : Int × Int), ((IntKind.i64.wrap (n - yearsS x5.fst - monthsS x5.fst x5.snd - monthS x5.fst x5.snd) = n - yearsS x6.fst - monthsS x6.fst x6.snd) ∧ ((x5.fst = x6.fst) ∧ ((IntKind.i64.wrap (x5.snd + (1 : Int)) = x6.snd) ∧ (((0 : Int) = (0 : Int)) ∧ (((0 : Int) = (0 : Int)) ∧ (((0 : Int) = (0 : Int)) ∧ (((inYear n x6.fst) ∧ (inMonth n x6.fst x6.snd)) ∧ ((((12 : Int) - x6.snd).toNat < ((12 : Int) - x5.snd).toNat) ∧ (True))))))))))) ∧ ((decide (monthS (x5.fst, x5.snd).fst (x5.fst, x5.snd).snd ≤ n - yearsS x5.fst - monthsS x5.fst x5.snd) = false) → ((x5.fst = (ofS n).fst) ∧ ((x5.snd = (ofS n).snd.fst) ∧ ((IntKind.i64.wrap (n - yearsS x5.fst - monthsS x5.fst x5.snd + (1 : Int)) = (ofS n).snd.snd) ∧ ((thereS n = true) ∧ (True)))))))))))) ∧ ((decide (x2 ≤ (2199 : Int)) = false) → (((0 : Int) = (ofS n).fst) ∧ (((0 : Int) = (ofS n).snd.fst) ∧ (((0 : Int) = (ofS n).snd.snd) ∧ ((thereS n = false) ∧ (True)))))))))))) := by kernel_rfl
def lastB (l : Bool) (m : Nat) : Int := if m = 2 then (if l then 29 else 28) else if m = 4 ∨ m = 6 ∨ m = 9 ∨ m = 11 then 30 else 31
def monthsB (l : Bool) (m : Nat) : Int := beforeS m + (if 2 < m ∧ l = true then 1 else 0)
theorem lastS_B {y : Int} (_hy : 1900 ≤ y ∧ y ≤ 2199) {m : Nat} (hm : 1 ≤ m ∧ m ≤ 12) : lastS y m = lastB (leapS y) m := by
  simp only [lastS, if_neg (show ¬ (y < 1900 ∨ 2199 < y) by omega)]
  match m, hm with
  | 0, hm => omega
  | 1, _ | 3, _ | 4, _ | 5, _ | 6, _ | 7, _ | 8, _ | 9, _ | 10, _ | 11, _ | 12, _ => rfl
  | 2, _ => rfl
  | m + 13, hm => omega
theorem monthsS_B (y : Int) (m : Nat) : monthsS y m = monthsB (leapS y) m := by
  simp only [monthsS, monthsB]
  congr 1
  by_cases h : 2 < m
  · simp [h, show (2 : Int) < m by omega]
  · simp [h, show ¬ (2 : Int) < m by omega]
theorem months_less : ∀ l : Bool, ∀ i, i < 13 → ∀ j, j < 13 → 1 ≤ i → i < j → monthsB l i + lastB l i ≤ monthsB l j := by decide
theorem year_days : ∀ l : Bool, monthsB l 12 + 31 = if l = true then 366 else 365 := by decide

theorem right_of {y m d : Int} (h : 1 ≤ d ∧ d ≤ lastS y m) : rightS (y, m, d) = true := by
  simp only [rightS, Bool.and_eq_true, decide_eq_true_eq]; exact h

theorem years_less {y z : Int} (h : 1900 ≤ y ∧ y < z) : yearsS (y + 1) ≤ yearsS z := by
  simp only [yearsS, leapsS]; omega

theorem nat_of {m : Int} (h : 1 ≤ m ∧ m ≤ 12) : ∃ k : Nat, m = k ∧ 1 ≤ k ∧ k < 13 := ⟨m.toNat, by omega, by omega, by omega⟩

theorem months_end {y m : Int} (hy : 1900 ≤ y ∧ y ≤ 2199) (hm : 1 ≤ m ∧ m ≤ 12) : monthsS y m + lastS y m ≤ longS y := by
  obtain ⟨k, rfl, h1, h2⟩ := nat_of hm
  rw [monthsS_B, lastS_B hy (by omega)]
  have h3 := year_days (leapS y)
  have h4 : longS y = if leapS y = true then 366 else 365 := rfl
  rw [h4, ← h3]
  by_cases e : k = 12
  · subst e
    have : lastB (leapS y) 12 = 31 := rfl
    omega
  · have h5 := months_less (leapS y) k h2 12 (by omega) h1 (by omega)
    omega

theorem num_in {y m d : Int} (h : rightS (y, m, d) = true) : yearsS y + monthsS y m ≤ numS (y, m, d) ∧ numS (y, m, d) < yearsS y + monthsS y m + lastS y m ∧ numS (y, m, d) < yearsS (y + 1) := by
  obtain ⟨h1, h2, h3, h4, h5, h6, h7⟩ := right_in h
  have h8 := months_end (y := y) (m := m) ⟨h1, h2⟩ ⟨h3, h4⟩
  rw [years_next]
  simp only [numS]
  omega

theorem num_inj {y m d y' m' d' : Int} (h : rightS (y, m, d) = true) (h' : rightS (y', m', d') = true) (e : numS (y, m, d) = numS (y', m', d')) : (y, m, d) = (y', m', d') := by
  obtain ⟨h1, h2, h3, h4, h5, h6, h7⟩ := right_in h
  obtain ⟨g1, g2, g3, g4, g5, g6, g7⟩ := right_in h'
  obtain ⟨a1, a2, a3⟩ := num_in h
  obtain ⟨b1, b2, b3⟩ := num_in h'
  have m1 := monthsS_in (y := y) (m := m) ⟨h3, h4⟩
  have m2 := monthsS_in (y := y') (m := m') ⟨g3, g4⟩
  have hy : y = y' := by
    rcases Int.lt_trichotomy y y' with hlt | he | hlt
    · have := years_less (y := y) (z := y') ⟨h1, hlt⟩; omega
    · exact he
    · have := years_less (y := y') (z := y) ⟨g1, hlt⟩; omega
  subst hy
  have hm : m = m' := by
    obtain ⟨k, rfl, k1, k2⟩ := nat_of ⟨h3, h4⟩
    obtain ⟨j, rfl, j1, j2⟩ := nat_of ⟨g3, g4⟩
    rw [monthsS_B, lastS_B ⟨h1, h2⟩ (by omega)] at *
    rcases Nat.lt_trichotomy k j with hlt | he | hlt
    · have := months_less (leapS y) k k2 j j2 k1 hlt; omega
    · rw [he]
    · have := months_less (leapS y) j j2 k k2 j1 hlt
      omega
  subst hm
  have : d = d' := by simp only [numS] at e; omega
  rw [this]

theorem ofS_num {a : Int × Int × Int} (h : rightS a = true) : ofS (numS a) = a := by
  have hex : ∃ b, rightS b = true ∧ numS b = numS a := ⟨a, h, rfl⟩
  unfold ofS
  rw [dif_pos hex]
  obtain ⟨h1, h2⟩ := hex.choose_spec
  exact num_inj h1 h h2

theorem ofS_out {n : Int} (h : ¬ (0 ≤ n ∧ n < 109573)) : ofS n = (0, 0, 0) := by
  unfold ofS
  rw [dif_neg]
  rintro ⟨⟨y, m, d⟩, h1, rfl⟩
  obtain ⟨h2, h3, h4, h5, h6, h7, h8⟩ := right_in h1
  obtain ⟨a1, a2, a3⟩ := num_in h1
  have m1 := monthsS_in (y := y) (m := m) ⟨h4, h5⟩
  have y1 := yearsS_in (y := y) ⟨h2, by omega⟩
  have y2 : yearsS (y + 1) ≤ 109573 := by
    have e : yearsS 2200 = 109573 := by decide
    rw [← e]
    exact years_less ⟨h2, by omega⟩
  omega

/-- In a month, and on to the next one. -/
theorem of_step {n y m : Int} (h : inYear n y ∧ inMonth n y m) :
    (lastS y m ≤ n - yearsS y - monthsS y m → m ≤ 11 ∧ monthsS y (m + 1) = monthsS y m + lastS y m ∧ inMonth n y (m + 1)) ∧
    (¬ lastS y m ≤ n - yearsS y - monthsS y m → ofS n = (y, m, 1 + (n - yearsS y - monthsS y m)) ∧ thereS n = true) ∧ 0 ≤ n - yearsS y - monthsS y m ∧ n - yearsS y - monthsS y m ≤ 400 ∧ 0 ≤ lastS y m ∧ lastS y m ≤ 31 := by
  obtain ⟨⟨h1, h2, h3, h4⟩, h5, h6, h7⟩ := h
  have hm := monthsS_in (y := y) (m := m) ⟨h5, h6⟩
  have hl := longS_or y
  have hlast : lastS y m ≤ 31 ∧ 0 ≤ lastS y m := by
    unfold lastS
    repeat' split
    all_goals omega
  rw [years_next] at h4
  refine ⟨fun h => ?_, fun h => ?_, by omega, by omega, by omega, by omega⟩
  · have hm11 : m ≤ 11 := by
      apply Classical.byContradiction
      intro hc
      have : m = 12 := by omega
      subst this
      have e1 : monthsS y 12 = monthsB (leapS y) 12 := monthsS_B y 12
      have e2 : lastS y 12 = 31 := lastS_B (m := 12) ⟨h1, h2⟩ (by omega)
      have e3 := year_days (leapS y)
      have e4 : longS y = if leapS y = true then 366 else 365 := rfl
      omega
    have hn := months_next (y := y) (m := m) ⟨h1, h2⟩ ⟨h5, hm11⟩
    exact ⟨hm11, hn, by omega, by omega, by omega⟩
  · have hr : rightS (y, m, 1 + (n - yearsS y - monthsS y m)) = true := right_of (by omega)
    have e : numS (y, m, 1 + (n - yearsS y - monthsS y m)) = n := by simp only [numS]; omega
    refine ⟨by have := ofS_num hr; rw [e] at this; exact this, ?_⟩
    have y1 := yearsS_in (y := y) ⟨h1, by omega⟩
    have y2 : yearsS (y + 1) ≤ 109573 := by
      have e : yearsS 2200 = 109573 := by decide
      rw [← e]
      exact years_less ⟨h1, by omega⟩
    rw [years_next] at y2
    simp only [thereS, Bool.and_eq_true, decide_eq_true_eq]
    omega

theorem thereS_no {n : Int} (h : ¬ (0 ≤ n ∧ n < 109573)) : thereS n = false := by
  simp only [thereS, Bool.and_eq_false_iff, decide_eq_false_iff_not]; omega

theorem wrapN {n : Int} (h : -9223372036854775808 ≤ n ∧ n ≤ 9223372036854775807) : IntKind.i64.wrap n = n := IntWalk.i64_in n h

theorem first_of {y : Int} (h : 1900 ≤ y ∧ y ≤ 2199) : rightS (y, 1, 1) = true ∧ numS (y, 1, 1) = yearsS y := by
  refine ⟨right_of ?_, ?_⟩
  · have : lastS y 1 = 31 := lastS_B (m := 1) h (by omega)
    omega
  · simp only [numS, monthsS_one]; omega

theorem of_known : Known Try.prog 18 ofC := by
  refine knownOf emI shI_em (by kernel_rfl) fun n _ => ⟨rfl, fnOK (cxOk (lit := false) (nt := 71) mixed3 ty3_ok (.cons number_known (.cons last_known .nil))) Try.func18 (by kernel_rfl) (An := ofAn n) (labs := []) (by kernel_rfl) ?_⟩
  rw [vc_of]
  refine ⟨fun h => ?_, fun h => ⟨fun h2 => ?_, fun h2 => ⟨⟨by omega⟩, ⟨1900 + n / 366, rfl, rfl, rfl, rfl, ?_, rfl, rfl, ?_, trivial, trivial⟩, fun y hy => ⟨fun h3 => ⟨fun h4 => ⟨⟨(y, 1), ?_, rfl, rfl, rfl, rfl, rfl, rfl, ?_, trivial, trivial⟩, fun z hz => ⟨fun h5 => ⟨(z.1, z.2 + 1), ?_, rfl, rfl, rfl, rfl, ?_, rfl, ?_, ?_, trivial⟩, fun h5 => ?_⟩⟩, fun h4 => ⟨y + 1, rfl, rfl, rfl, rfl, ?_, rfl, rfl, ?_, ?_, trivial⟩⟩,
    fun h3 => ⟨⟨(y, 1), ?_, rfl, rfl, rfl, rfl, rfl, rfl, ?_, trivial, trivial⟩, fun z hz => ⟨fun h5 => ⟨(z.1, z.2 + 1), ?_, rfl, rfl, rfl, rfl, ?_, rfl, ?_, ?_, trivial⟩, fun h5 => ?_⟩⟩⟩⟩⟩⟩
  all_goals try simp only [decide_eq_true_eq, decide_eq_false_iff_not] at *
  · rw [ofS_out (by omega), thereS_no (by omega)]; exact ⟨rfl, rfl, rfl, rfl, trivial⟩
  · rw [ofS_out (by omega), thereS_no (by omega)]; exact ⟨rfl, rfl, rfl, rfl, trivial⟩
  · rw [Int.tdiv_eq_ediv_of_nonneg (by omega), wrapN (n := n / 366) (by omega), wrapN (by omega)]
  · refine ⟨by omega, by omega, ?_⟩
    have e0 : leapsS 1900 = 460 := by decide
    simp only [yearsS, e0]
    simp only [leapsS]
    omega
  · obtain ⟨f1, f2⟩ := first_of (y := y) (by omega)
    rw [f1, if_pos rfl, f2, monthsS_one, wrapN (by have := yearsS_in (y := y) (by omega); omega)]; omega
  · rw [wrapN (n := y + 1) (by omega)] at h4
    obtain ⟨f1, f2⟩ := first_of (y := y + 1) (by omega)
    rw [f1, if_pos rfl, f2] at h4
    exact ⟨⟨hy.1, hy.2.1, hy.2.2, h4⟩, by omega, by omega, by rw [monthsS_one]; omega⟩
  · obtain ⟨s1, s2, s3, s4, s5, s6⟩ := of_step hz
    obtain ⟨t1, t2, t3⟩ := s1 h5
    rw [wrapN (by omega), t2]; omega
  · exact wrapN (by have := hz.2.2.1; have := hz.2.1; omega)
  · exact ⟨hz.1, ((of_step hz).1 h5).2.2⟩
  · have := ((of_step hz).1 h5).1; omega
  · obtain ⟨s1, s2, s3, s4, s5, s6⟩ := of_step hz
    obtain ⟨t1, t2⟩ := s2 h5
    rw [t1, t2, wrapN (by omega)]
    exact ⟨rfl, rfl, rfl, rfl, trivial⟩
  · exact wrapN (by omega)
  · rw [wrapN (n := y + 1) (by omega)] at h4
    obtain ⟨f1, f2⟩ := first_of (y := y + 1) (by omega)
    rw [f1, if_pos rfl, f2] at h4
    exact ⟨by omega, by omega, by omega⟩
  · omega
  · obtain ⟨f1, f2⟩ := first_of (y := y) (by omega)
    rw [f1, if_pos rfl, f2, monthsS_one, wrapN (by have := yearsS_in (y := y) (by omega); omega)]; omega
  · have e : yearsS 2200 = 109573 := by decide
    have : y = 2199 := by omega
    subst this
    exact ⟨⟨hy.1, hy.2.1, hy.2.2, by show n < yearsS 2200; omega⟩, by omega, by omega, by rw [monthsS_one]; omega⟩
  · obtain ⟨s1, s2, s3, s4, s5, s6⟩ := of_step hz
    obtain ⟨t1, t2, t3⟩ := s1 h5
    rw [wrapN (by omega), t2]; omega
  · exact wrapN (by have := hz.2.2.1; have := hz.2.1; omega)
  · exact ⟨hz.1, ((of_step hz).1 h5).2.2⟩
  · have := ((of_step hz).1 h5).1; omega
  · obtain ⟨s1, s2, s3, s4, s5, s6⟩ := of_step hz
    obtain ⟨t1, t2⟩ := s2 h5
    rw [t1, t2, wrapN (by omega)]
    exact ⟨rfl, rfl, rfl, rfl, trivial⟩

theorem rof_known : Known Try.prog 19 rofC := by
  refine knownOf emI shI_em (by kernel_rfl) fun n hn => ⟨rfl, fnOK (cxOk (lit := false) (nt := 39) mixed3 ty3_ok (.cons long_known (.cons month_known .nil))) Try.func19 (by kernel_rfl) (An := rofAn n) (labs := []) (by kernel_rfl) ?_⟩
  rw [vc_rof]
  obtain ⟨hn0, hn1⟩ : inR n := hn.out
  have e22 : yearsS 2200 = 109573 := by decide
  refine ⟨fun h => ?_, fun h => ⟨⟨1900, ?_, rfl, rfl, rfl, rfl, ?_, trivial, trivial⟩, fun y hy => ⟨fun h3 => ⟨fun h4 => ⟨y + 1, ?_, ?_, rfl, rfl, rfl, ?_, ?_, trivial⟩, fun h4 => ⟨⟨(y, 1), ?_, rfl, rfl, rfl, rfl, rfl, ?_, trivial, trivial⟩,
    fun z hz => ⟨fun h5 => ⟨(z.1, z.2 + 1), ?_, rfl, ?_, rfl, rfl, rfl, ?_, ?_, trivial⟩, fun h5 => ?_⟩⟩⟩, fun h3 => ?_⟩⟩⟩
  all_goals try simp only [decide_eq_true_eq, decide_eq_false_iff_not] at *
  · rw [ofS_out (by omega), thereS_no (by omega)]; exact ⟨rfl, rfl, rfl, rfl, trivial⟩
  · rw [yearsS_first]; omega
  · exact ⟨by omega, by omega, by rw [yearsS_first]; omega⟩
  · have := yearsS_in (y := y) (by omega)
    have := longS_or y
    rw [years_next, wrapN (by omega)]; omega
  · exact wrapN (by omega)
  · exact ⟨by omega, by omega, by rw [years_next]; omega⟩
  · omega
  · rw [monthsS_one]; omega
  · exact ⟨⟨by omega, by omega, by omega, by rw [years_next]; omega⟩, by omega, by omega, by rw [monthsS_one]; omega⟩
  · obtain ⟨s1, s2, s3, s4, s5, s6⟩ := of_step hz
    rw [monthS_eq] at *
    obtain ⟨t1, t2, t3⟩ := s1 h5
    rw [wrapN (by omega), t2]; omega
  · exact wrapN (by have := hz.2.2.1; have := hz.2.1; omega)
  · rw [monthS_eq] at h5
    exact ⟨hz.1, ((of_step hz).1 h5).2.2⟩
  · rw [monthS_eq] at h5
    have := ((of_step hz).1 h5).1; omega
  · rw [monthS_eq] at h5
    obtain ⟨s1, s2, s3, s4, s5, s6⟩ := of_step hz
    obtain ⟨t1, t2⟩ := s2 h5
    rw [t1, t2, wrapN (by omega), Int.add_comm]
    exact ⟨rfl, rfl, rfl, rfl, trivial⟩
  · have : y = 2200 := by omega
    subst this
    rw [ofS_out (by omega), thereS_no (by omega)]; exact ⟨rfl, rfl, rfl, rfl, trivial⟩
end Go.Rx
