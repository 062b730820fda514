/- Bands: which there may be; the greatest rate. -/
import Derived.Test.YtcehjhdgdgkkgaaDoorJ5
namespace Go.Rx
open Go.Proofs
set_option linter.unusedSimpArgs false
set_option linter.unusedVariables false

def bandK : List CK := [.int .i64, .int .i64, .int .i64]
/-- A band's column: 0 its beginning, 1 and 2 the rates. -/
def bd (l : List SV) (i k : Nat) : Int := (elCell l i k).toInt
def bErr (l : List SV) (i : Nat) : Int :=
  if bd l i 0 < 0 ∨ 100000000000 < bd l i 0 ∨ (i = 0 ∧ bd l i 0 ≠ 0) then 1
  else if 0 < i ∧ bd l i 0 ≤ bd l (i - 1) 0 then 6
  else if rateB (bd l i 1) = true ∧ rateB (bd l i 2) = true then 0 else 50
def bErrs (l : List SV) : Nat → Int
  | 0 => 0
  | i + 1 => if bErrs l i = 0 then bErr l i else bErrs l i
def checkS (l : List SV) : Int := if l.length = 0 ∨ 8 < l.length then 2 else bErrs l l.length
def chk_an (l : List SV) : Nat → Option Ann
  | 1000 => some ⟨Nat, fun i => ⟨[(0, .sl bandK l), (3, .int .i64 i)], []⟩, fun i => i < l.length ∧ l.length ≤ 8 ∧ bErrs l i = 0, fun i => l.length - i, [0, 3], [], [], fun _ _ => none⟩
  | _ => none
def topN (l : List SV) : Nat → Int
  | 0 => 0
  | i + 1 => maxV (topN l i) (bd l i 1)
def topS (l : List SV) : Int := topN l l.length
def top_an (l : List SV) : Nat → Option Ann
  | 0 => some ⟨Nat, fun i => ⟨[(3, .int .i64 (topN l i)), (6, .sl bandK l), (7, .int .i64 l.length), (8, .int .i64 i)], []⟩, fun i => i ≤ l.length ∧ l.length ≤ 1000, fun i => l.length - i, [3, 6, 7, 8], [], [], fun _ _ => none⟩
  | _ => none
/-- A band, of its columns. -/
def bOfS (f r e : Int) : SV := .agg [.int .i64 f, .int .i64 r, .int .i64 e]

def sh_bcheck : List SV → Option (List SV)
  | [l'] => (match slOf [.int .i64, .int .i64, .int .i64] l' with | some l => some l | _ => none)
  | _ => none
def em_bcheck : List SV → List SV := fun l => [.sl [.int .i64, .int .i64, .int .i64] l]
theorem sh_bcheck_le : ∀ us a, sh_bcheck us = some a → leL us (em_bcheck a) := by
  intro us a h
  unfold sh_bcheck at h
  split at h
  · split at h
    · cases h; exact (.cons (.sl (by assumption)) .nil)
    · cases h
  · cases h
def bcheckC : Con := conOf sh_bcheck (fun _ => none) (fun l => .int .i64 (checkS l))
set_option maxRecDepth 100000 in
theorem vc_bcheck (l : List SV) : (wpF ⟨66, tyT, [(48, rateC)], false, 0, [], false⟩ ((chk_an l)) [0] Tryd.f75 (em_bcheck l) (.int .i64 (checkS l))) = (((((decide ((↑l.length : Int) = (0 : Int)) = true) → (((2 : Int) = checkS l) ∧ (True))) ∧ ((decide ((↑l.length : Int) = (0 : Int)) = false) → (((decide ((8 : Int) < (↑l.length : Int)) = true) → (((2 : Int) = checkS l) ∧ (True))) ∧ ((decide ((8 : Int) < (↑l.length : Int)) = false) → (Ob ((((0 : Int) ≤ (0 : Int)) ∧ ((0 : Int) < (↑l.length : Int)))) ∧ (((decide ((elCell l (0 : Nat) (0 : Nat)).toInt < (0 : Int)) = true) → (((1 : Int) = checkS l) ∧ (True))) ∧ ((decide ((elCell l (0 : Nat) (0 : Nat)).toInt < (0 : Int)) = false) → (((decide ((100000000000 : Int) < (elCell l (0 : Nat) (0 : Nat)).toInt) = true) → (((1 : Int) = checkS l) ∧ (True))) ∧ ((decide ((100000000000 : Int) < (elCell l (0 : Nat) (0 : Nat)).toInt) = false) → (((decide ((0 : Int) = (0 : Int)) = true) → ((((!decide ((elCell l (0 : Nat) (0 : Nat)).toInt = (0 : Int))) = true) → (((1 : Int) = checkS l) ∧ (True))) ∧ (((!decide ((elCell l (0 : Nat) (0 : Nat)).toInt = (0 : Int))) = false) → (((decide ((0 : Int) < (0 : Int)) = true) → (Ob ((((0 : Int) ≤ (-1 : Int)) ∧ ((-1 : Int) < (↑l.length : Int)))) ∧ (((decide ((elCell l (0 : Nat) (0 : Nat)).toInt ≤ (elCell l (0 : Nat) (0 : Nat)).toInt) = true) → (((6 : Int) = checkS l) ∧ (True))) ∧ ((decide ((elCell l (0 : Nat) (0 : Nat)).toInt ≤ (elCell l (0 : Nat) (0 : Nat)).toInt) = false) → ((((!rateB (elCell l (0 : Nat) (1 : Nat)).toInt) = true) → (((50 : Int) = checkS l) ∧ (True))) ∧ (((!rateB (elCell l (0 : Nat) (1 : Nat)).toInt) = false) → ((((!rateB (elCell l (0 : Nat) (2 : Nat)).toInt) = true) → (((50 : Int) = checkS l) ∧ (True))) ∧ (((!rateB (elCell l (0 : Nat) (2 : Nat)).toInt) = false) → (((decide ((1 : Int) < (↑l.length : Int)) = true) → (∃ (x1 : Nat), ((l = l) ∧ (((1 : Int) = (↑x1 : Int)) ∧ (((x1 < l.length) ∧ ((l.length ≤ (8 : Nat)) ∧ (bErrs l x1 = (0 : Int)))) ∧ ((True) ∧ (True))))))) ∧ ((decide ((1 : Int) < (↑l.length : Int)) = false) → (((0 : Int) = checkS l) ∧ (True)))))))))))) ∧ ((decide ((0 : Int) < (0 : Int)) = false) → ((((!rateB (elCell l (0 : Nat) (1 : Nat)).toInt) = true) → (((50 : Int) = checkS l) ∧ (True))) ∧ (((!rateB (elCell l (0 : Nat) (1 : Nat)).toInt) = false) → ((((!rateB (elCell l (0 : Nat) (2 : Nat)).toInt) = true) → (((50 : Int) = checkS l) ∧ (True))) ∧ (((!rateB (elCell l (0 : Nat) (2 : Nat)).toInt) = false) → (((decide ((1 : Int) < (↑l.length : Int)) = true) → (∃ (x2 : Nat), ((l = l) ∧ (((1 : Int) = (↑x2 : Int)) ∧ (((x2 < l.length) ∧ ((l.length ≤ (8 : Nat)) ∧ (bErrs l x2 = (0 : Int)))) ∧ ((True) ∧ (True))))))) ∧ ((decide ((1 : Int) < (↑l.length : Int)) = false) → (((0 : Int) = checkS l) ∧ (True))))))))))))) ∧ ((decide ((0 : Int) = (0 : Int)) = false) → (((decide ((0 : Int) < (0 : Int)) = true) → (Ob ((((0 : Int) ≤ (-1 : Int)) ∧ ((-1 : Int) < (↑l.length : Int)))) ∧ (((decide ((elCell l (0 : Nat) (0 : Nat)).toInt ≤ (elCell l (0 : Nat) (0 : Nat)).toInt) = true) → (((6 : Int) = checkS l) ∧ (True))) ∧ ((decide ((elCell l (0 : Nat) (0 : Nat)).toInt ≤ (elCell l (0 : Nat) (0 : Nat)).toInt) = false) → ((((!rateB (elCell l (0 : Nat) (1 : Nat)).toInt) = true) → (((50 : Int) = checkS l) ∧ (True))) ∧ (((!rateB (elCell l (0 : Nat) (1 : Nat)).toInt) = false) → ((((!rateB (elCell l (0 : Nat) (2 : Nat)).toInt) = true) → (((50 : Int) = checkS l) ∧ (True))) ∧ (((!rateB (elCell l (0 : Nat) (2 : Nat)).toInt) = false) → (((decide ((1 : Int) < (↑l.length : Int)) = true) → (∃ (x3 : Nat), ((l = l) ∧ (((1 : Int) = (↑x3 : Int)) ∧ (((x3 < l.length) ∧ ((l.length ≤ (8 : Nat)) ∧ (bErrs l x3 = (0 : Int)))) ∧ ((True) ∧ (True))))))) ∧ ((decide ((1 : Int) < (↑l.length : Int)) = false) → (((0 : Int) = checkS l) ∧ (True)))))))))))) ∧ ((decide ((0 : Int) < (0 : Int)) = false) → ((((!rateB (elCell l (0 : Nat) (1 : Nat)).toInt) = true) → (((50 : Int) = checkS l) ∧ (True))) ∧ (((!rateB (elCell l (0 : Nat) (1 : Nat)).toInt) = false) → ((((!rateB (elCell l (0 : Nat) (2 : Nat)).toInt) = true) → (((50 : Int) = checkS l) ∧ (True))) ∧ (((!rateB (elCell l (0 : Nat) (2 : Nat)).toInt) = false) → (((decide ((1 : Int) < (↑l.length : Int)) = true) → (∃ (x4 : Nat), ((l = l) ∧ (((1 : Int) = (↑x4 : Int)) ∧ (((x4 < l.length) ∧ ((l.length ≤ (8 : Nat)) ∧ (bErrs l x4 = (0 : Int)))) ∧ ((True) ∧ (True))))))) ∧ ((decide ((1 : Int) < (↑l.length : Int)) = false) → (((0 : Int) = checkS l) ∧ (True))))))))))))))))))))) ∧ ((∀ (x5 : Nat), (((x5 < l.length) ∧ ((l.length ≤ (8 : Nat)) ∧ (bErrs l x5 = (0 : Int)))) → (Ob ((((0 : Int) ≤ (↑x5 : Int)) ∧ ((↑x5 : Int) < (↑l.length : Int)))) ∧ (((decide ((elCell l x5 (0 : Nat)).toInt < (0 : Int)) = true) → (((1 : Int) = checkS l) ∧ (True))) ∧ ((decide ((elCell l x5 (0 : Nat)).toInt < (0 : Int)) = false) → (((decide ((100000000000 : Int) < (elCell l x5 (0 : Nat)).toInt) = true) → (((1 : Int) = checkS l) ∧ (True))) ∧ ((decide ((100000000000 : Int) < (elCell l x5 (0 : Nat)).toInt) = false) → (((decide ((↑x5 : Int) = (0 : Int)) = true) → ((((!decide ((elCell l x5 (0 : Nat)).toInt = (0 : Int))) = true) → (((1 : Int) = checkS l) ∧ (True))) ∧ (((!decide ((elCell l x5 (0 : Nat)).toInt = (0 : Int))) = false) → (((decide ((0 : Int) < (↑x5 : Int)) = true) → (Ob ((((0 : Int) ≤ IntKind.i64.wrap ((↑x5 : Int) - (1 : Int))) ∧ (IntKind.i64.wrap ((↑x5 : Int) - (1 : Int)) < (↑l.length : Int)))) ∧ (((decide ((elCell l x5 (0 : Nat)).toInt ≤ (elCell l (IntKind.i64.wrap ((↑x5 : Int) - (1 : Int))).toNat (0 : Nat)).toInt) = true) → (((6 : Int) = checkS l) ∧ (True))) ∧ ((decide ((elCell l x5 (0 : Nat)).toInt ≤ (elCell l (IntKind.i64.wrap ((↑x5 : Int) - (1 : Int))).toNat (0 : Nat)).toInt) = false) → ((((!rateB (elCell l x5 (1 : Nat)).toInt) = true) → (((50 : Int) = checkS l) ∧ (True))) ∧ (((!rateB (elCell l x5 (1 : Nat)).toInt) = false) → ((((!rateB (elCell l x5 (2 : Nat)).toInt) = true) → (((50 : Int) = checkS l) ∧ (True))) ∧ (((!rateB (elCell l x5 (2 : Nat)).toInt) = false) → (((decide (IntKind.i64.wrap ((↑x5 : Int) + (1 : Int)) < (↑l.length : Int)) = true) → (∃ (x6 : Nat), ((l = l) ∧ ((IntKind.i64.wrap ((↑x5 : Int) + (1 : Int)) = (↑x6 : Int)) ∧ (((x6 < l.length) ∧ ((l.length ≤ (8 : Nat)) ∧ (bErrs l x6 = (0 : Int)))) ∧ ((l.length - x6 < l.length - x5) ∧ (True))))))) ∧ ((decide (IntKind.i64.wrap ((↑x5 : Int) + (1 : Int)) < (↑l.length : Int)) = false) → (((0 : Int) = checkS l) ∧ (True)))))))))))) ∧ ((decide ((0 : Int) < (↑x5 : Int)) = false) → ((((!rateB (elCell l x5 (1 : Nat)).toInt) = true) → (((50 : Int) = checkS l) ∧ (True))) ∧ (((!rateB (elCell l x5 (1 : Nat)).toInt) = false) → ((((!rateB (elCell l x5 (2 : Nat)).toInt) = true) → (((50 : Int) = checkS l) ∧ (True))) ∧ (((!rateB (elCell l x5 (2 : Nat)).toInt) = false) → (((decide (IntKind.i64.wrap ((↑x5 : Int) + (1 : Int)) < (↑l.length : Int)) = true) → (∃ (x7 : Nat), ((l = l) ∧ ((IntKind.i64.wrap ((↑x5 : Int) + (1 : Int)) = (↑x7 : Int)) ∧ (((x7 < l.length) ∧ ((l.length ≤ (8 : Nat)) ∧ (bErrs l x7 = (0 : Int)))) ∧ ((l.length - x7 < l.length - x5) ∧ (True))))))) ∧ ((decide (IntKind.i64.wrap ((↑x5 : Int) + (1 : Int)) < (↑l.length : Int)) = false) → (((0 : Int) = checkS l) ∧ (True))))))))))))) ∧ ((decide ((↑x5 : Int) = (0 : Int)) = false) → (((decide ((0 : Int) < (↑x5 : Int)) = true) → (Ob ((((0 : Int) ≤ IntKind.i64.wrap ((↑x5 : Int) - (1 : Int))) ∧ (IntKind.i64.wrap ((↑x5 : Int) - (1 : Int)) < (↑l.length : Int)))) ∧ (((decide ((elCell l x5 (0 : Nat)).toInt ≤ (elCell l (IntKind.i64.wrap ((↑x5 : Int) - (1 : Int))).toNat (0 : Nat)).toInt) = true) → (((6 : Int) = checkS l) ∧ (True))) ∧ ((decide ((elCell l x5 (0 : Nat)).toInt ≤ (elCell l (IntKind.i64.wrap ((↑x5 : Int) - (1 : Int))).toNat (0 : Nat)).toInt) = false) → ((((!rateB (elCell l x5 (1 : Nat)).toInt) = true) → (((50 : Int) = checkS l) ∧ (True))) ∧ (((!rateB (elCell l x5 (1 : Nat)).toInt) = false) → ((((!rateB (elCell l x5 (2 : Nat)).toInt) = true) → (((50 : Int) = checkS l) ∧ (True))) ∧ (((!rateB (elCell l x5 (2 : Nat)).toInt) = false) → (((decide (IntKind.i64.wrap ((↑x5 : Int) + (1 : Int)) < (↑l.length : Int)) = true) → (∃ (x8 : Nat), ((l = l) ∧ ((IntKind.i64.wrap ((↑x5 : Int) + (1 : Int)) = (↑x8 : Int)) ∧ (((x8 < l.length) ∧ ((l.length ≤ (8 : Nat)) ∧ (bErrs l x8 = (0 : Int)))) ∧ ((l.length - x8 < l.length - x5) ∧ (True))))))) ∧ ((decide (IntKind.i64.wrap ((↑x5 : Int) + (1 : Int)) < (↑l.length : Int)) = false) → (((0 : Int) = checkS l) ∧ (True)))))))))))) ∧ ((decide ((0 : Int) < (↑x5 : Int)) = false) → ((((!rateB (elCell l x5 (1 : Nat)).toInt) = true) → (((50 : Int) = checkS l) ∧ (True))) ∧ (((!rateB (elCell l x5 (1 : Nat)).toInt) = false) → ((((!rateB (elCell l x5 (2 : Nat)).toInt) = true) → (((50 : Int) = checkS l) ∧ (True))) ∧ (((!rateB (elCell l x5 (2 : Nat)).toInt) = false) → (((decide (IntKind.i64.wrap ((↑x5 : Int) + (1 : Int)) < (↑l.length : Int)) = true) → (∃ (x9 : Nat), ((l = l) ∧ ((IntKind.i64.wrap ((↑x5 : Int) + (1 : Int)) = (↑x9 : Int)) ∧ (((x9 < l.length) ∧ ((l.length ≤ (8 : Nat)) ∧ (bErrs l x9 = (0 : Int)))) ∧ ((l.length - x9 < l.length - x5) ∧ (True))))))) ∧ ((decide (IntKind.i64.wrap ((↑x5 : Int) + (1 : Int)) < (↑l.length : Int)) = false) → (((0 : Int) = checkS l) ∧ (True))))))))))))))))))) ∧ (True)))) := by kernel_rfl
theorem bd_eq (l : List SV) (i k : Nat) : (elCell l i k).toInt = bd l i k := rfl
theorem bErrs_stay {l : List SV} {i : Nat} (h : bErrs l i ≠ 0) : ∀ j, i ≤ j → bErrs l j = bErrs l i
  | 0, hj => by rw [Nat.le_zero.1 hj]
  | j + 1, hj => by
    rcases Nat.lt_or_ge i (j + 1) with h1 | h1
    · have := bErrs_stay h j (by omega)
      simp only [bErrs]
      rw [if_neg (by rw [this]; exact h), this]
    · rw [show i = j + 1 by omega]
theorem bErrs_back {l : List SV} {i j : Nat} (h : bErrs l j = 0) (hi : i ≤ j) : bErrs l i = 0 := by
  apply Classical.byContradiction
  intro hc
  have := bErrs_stay hc j hi
  rw [h] at this
  exact hc this.symm
/-- A band that may be. -/
theorem bErr_zero {l : List SV} {i : Nat} (h : bErr l i = 0) : 0 ≤ bd l i 0 ∧ bd l i 0 ≤ 100000000000 ∧ (i = 0 → bd l i 0 = 0) ∧ (0 < i → bd l (i - 1) 0 < bd l i 0) ∧ (0 ≤ bd l i 1 ∧ bd l i 1 ≤ 10000) ∧ (0 ≤ bd l i 2 ∧ bd l i 2 ≤ 10000) := by
  unfold bErr at h
  split at h
  · omega
  · split at h
    · omega
    · split at h
      · rename_i h1 h2 h3
        have := rateB_iff.1 h3.1
        have := rateB_iff.1 h3.2
        omega
      · omega
theorem check_zero {l : List SV} (h : checkS l = 0) : 1 ≤ l.length ∧ l.length ≤ 8 ∧ ∀ i, i < l.length → bErr l i = 0 := by
  unfold checkS at h
  split at h
  · omega
  · refine ⟨by omega, by omega, fun i hi => ?_⟩
    have h1 := bErrs_back h (i := i) (by omega)
    have h2 := bErrs_back h (i := i + 1) (by omega)
    simp only [bErrs] at h2
    rw [if_pos h1] at h2
    exact h2
/-- What a band tells of all. -/
theorem check_at {l : List SV} {i : Nat} (hi : i < l.length) (hl : l.length ≤ 8) (h : bErrs l i = 0) :
    (bd l i 0 < 0 ∨ 100000000000 < bd l i 0 ∨ (i = 0 ∧ bd l i 0 ≠ 0) → checkS l = 1) ∧
    (¬ (bd l i 0 < 0 ∨ 100000000000 < bd l i 0 ∨ (i = 0 ∧ bd l i 0 ≠ 0)) → (0 < i ∧ bd l i 0 ≤ bd l (i - 1) 0 → checkS l = 6) ∧
      (¬ (0 < i ∧ bd l i 0 ≤ bd l (i - 1) 0) → (rateB (bd l i 1) = false ∨ rateB (bd l i 2) = false → checkS l = 50) ∧
        (rateB (bd l i 1) = true → rateB (bd l i 2) = true → (i + 1 < l.length → bErrs l (i + 1) = 0) ∧ (¬ i + 1 < l.length → checkS l = 0)))) := by
  have nx : bErrs l (i + 1) = bErr l i := by simp only [bErrs]; rw [if_pos h]
  have hC : checkS l = bErrs l l.length := by unfold checkS; rw [if_neg (by omega)]
  have up : bErr l i ≠ 0 → checkS l = bErr l i := fun hne => by
    rw [hC, ← nx]; exact bErrs_stay (by rw [nx]; exact hne) _ (by omega)
  refine ⟨fun c => ?_, fun c => ⟨fun d => ?_, fun d => ⟨fun e => ?_, fun e1 e2 => ?_⟩⟩⟩
  · have : bErr l i = 1 := by unfold bErr; rw [if_pos c]
    rw [up (by omega), this]
  · have : bErr l i = 6 := by unfold bErr; rw [if_neg c, if_pos d]
    rw [up (by omega), this]
  · have : bErr l i = 50 := by
      unfold bErr; rw [if_neg c, if_neg d, if_neg]
      rintro ⟨q1, q2⟩
      rw [q1, q2] at e
      simp at e
    rw [up (by omega), this]
  · have : bErr l i = 0 := by unfold bErr; rw [if_neg c, if_neg d, if_pos ⟨e1, e2⟩]
    rw [this] at nx
    exact ⟨fun _ => nx, fun h2 => by rw [hC, show l.length = i + 1 by omega, nx]⟩

theorem bcheck_known : Known Tryd.prog 75 bcheckC := by
  refine known1 (nt := 66) (An := fun l => (chk_an l)) (labs := [0]) (lit := false) (em := em_bcheck) sh_bcheck_le (by kernel_rfl) mixedT tyT_ok (.cons rate_known .nil) Tryd.func75 (by kernel_rfl) (fun a => by kernel_rfl) (fun a => by rfl) (fun l ha => ?_)
  refine ⟨_, vc_bcheck l, ?_⟩
  simp only [Int.reduceLE, Int.reduceLT, Int.reduceEq, Int.reduceNe, Nat.reduceLeDiff, Nat.reduceEqDiff, beq_eq_false_iff_ne, beq_iff_eq, decide_eq_decide, ne_eq, eq_self, true_and, and_true, and_self, and_false, false_and, Bool.not_true, Bool.not_false, Bool.false_eq_true, Bool.true_eq_false, false_implies, true_implies, implies_true, imp_false, not_true, not_false_eq_true, decide_eq_true_eq, decide_eq_false_iff_not, Bool.not_eq_true', Bool.not_eq_false', Bool.and_eq_true, Classical.not_not, decide_true, decide_false, Bool.and_true, Bool.true_and, if_true, if_false, Ob_iff]
  simp only [bd_eq]
  refine ⟨⟨fun h => ?_, fun h => ⟨fun h2 => ?_, fun h2 => ?_⟩⟩, fun i ⟨i1, i2, i3⟩ => ?_⟩
  · unfold checkS; rw [if_pos (by omega)]
  · unfold checkS; rw [if_pos (by omega)]
  · obtain ⟨c1, c2⟩ := check_at (l := l) (i := 0) (by omega) (by omega) rfl
    refine ⟨by omega, ?_⟩
    repeat' first | exact trivial | with_reducible rfl | apply And.intro | apply Ob.mk | intro _
    all_goals first
      | exact (c1 (by omega)).symm
      | exact ((c2 (by omega)).2 (by omega)).1 (.inl (by assumption)) |>.symm
      | exact ((c2 (by omega)).2 (by omega)).1 (.inr (by assumption)) |>.symm
      | exact (((c2 (by omega)).2 (by omega)).2 (by assumption) (by assumption)).2 (by omega) |>.symm
      | exact ⟨1, rfl, by omega, by omega, (((c2 (by omega)).2 (by omega)).2 (by assumption) (by assumption)).1 (by omega)⟩
  · obtain ⟨c1, c2⟩ := check_at i1 i2 i3
    simp only [wrapI (n := (i : Int) - 1) (by omega), wrapI (n := (i : Int) + 1) (by omega), show ((i : Int) - 1).toNat = i - 1 by omega]
    refine ⟨by omega, ?_⟩
    repeat' first | exact trivial | with_reducible rfl | apply And.intro | apply Ob.mk | intro _
    all_goals first
      | omega
      | exact (c1 (by omega)).symm
      | exact ((c2 (by omega)).1 (by omega)).symm
      | exact ((c2 (by omega)).2 (by omega)).1 (.inl (by assumption)) |>.symm
      | exact ((c2 (by omega)).2 (by omega)).1 (.inr (by assumption)) |>.symm
      | exact (((c2 (by omega)).2 (by omega)).2 (by assumption) (by assumption)).2 (by omega) |>.symm
      | exact ⟨i + 1, rfl, ⟨by omega, by omega, (((c2 (by omega)).2 (by omega)).2 (by assumption) (by assumption)).1 (by omega)⟩, by omega⟩


end Go.Rx

