/- Names: which words may be one; words in a line, as it is cut. -/
import Derived.Test.YtcehjhdgdgkkgaaDoorWd
namespace Go.Rx
open Go.Proofs
set_option linter.unusedSimpArgs false
set_option linter.unusedVariables false

/-- May a byte stand at a place of a name? -/
def nmC (i : Nat) (c : UInt8) : Bool := (decide (97 ≤ c.toNat) && decide (c.toNat ≤ 122)) || (!decide (i = 0) && ((decide (48 ≤ c.toNat) && decide (c.toNat ≤ 57)) || decide (c.toNat = 45)))
def nmN (s : List UInt8) : Nat → Bool
  | 0 => true
  | i + 1 => nmN s i && nmC i (s.getD i 0)
def nmB (s : List UInt8) : Bool := !decide (s = []) && decide (s.length ≤ 16) && nmN s s.length
def nm_an (s : List UInt8) : Nat → Option Ann
  | 0 => some ⟨Nat, fun i => ⟨[(0, .str s), (14, .int .i64 s.length), (15, .int .i64 i)], []⟩, fun i => i ≤ s.length ∧ s ≠ [] ∧ s.length ≤ 16 ∧ nmN s i = true, fun i => s.length - i, [0, 14, 15], [], [], fun _ _ => none⟩
  | _ => none

def sh_wname1 : List SV → Option (List UInt8)
  | [.str s] => some s
  | _ => none
def em_wname1 : List UInt8 → List SV := fun s => [.str s]
theorem sh_wname1_le : ∀ us a, sh_wname1 us = some a → leL us (em_wname1 a) := by
  intro us a h
  unfold sh_wname1 at h
  split at h
  · cases h; exact (.cons (.refl _) .nil)
  · cases h
def wname1C : Con := conOf sh_wname1 (fun _ => none) (fun s => .bool (nmB s))
set_option maxRecDepth 100000 in
theorem vc_wname1 (s : List UInt8) : (wpF ⟨46, tyT, [], false, 0, [], false⟩ ((nm_an s)) [] Tryd.f18 (em_wname1 s) (.bool (nmB s))) = ((((decide (s = []) = true) → ((nmB s = false) ∧ (True))) ∧ ((decide (s = []) = false) → (((decide ((16 : Int) < (↑s.length : Int)) = true) → ((nmB s = false) ∧ (True))) ∧ ((decide ((16 : Int) < (↑s.length : Int)) = false) → ((∃ (x1 : Nat), ((s = s) ∧ (((↑s.length : Int) = (↑s.length : Int)) ∧ (((0 : Int) = (↑x1 : Int)) ∧ (((x1 ≤ s.length) ∧ ((s ≠ []) ∧ ((s.length ≤ (16 : Nat)) ∧ (nmN s x1 = true)))) ∧ ((True) ∧ (True))))))) ∧ (∀ (x2 : Nat), (((x2 ≤ s.length) ∧ ((s ≠ []) ∧ ((s.length ≤ (16 : Nat)) ∧ (nmN s x2 = true)))) → (((decide ((↑x2 : Int) < (↑s.length : Int)) = true) → (Ob ((((0 : Int) ≤ (↑x2 : Int)) ∧ ((↑x2 : Int) < (↑s.length : Int)))) ∧ (((decide ((97 : Int) ≤ (↑(s.getD x2 (0 : UInt8)).toNat : Int)) = true) → ((((!decide ((↑(s.getD x2 (0 : UInt8)).toNat : Int) ≤ (122 : Int))) = true) → (((decide ((↑x2 : Int) = (0 : Int)) = true) → ((nmB s = false) ∧ (True))) ∧ ((decide ((↑x2 : Int) = (0 : Int)) = false) → (((decide ((↑(s.getD x2 (0 : UInt8)).toNat : Int) < (48 : Int)) = true) → ((((!decide ((↑(s.getD x2 (0 : UInt8)).toNat : Int) = (45 : Int))) = true) → ((nmB s = false) ∧ (True))) ∧ (((!decide ((↑(s.getD x2 (0 : UInt8)).toNat : Int) = (45 : Int))) = false) → (∃ (x3 : Nat), ((s = s) ∧ (((↑s.length : Int) = (↑s.length : Int)) ∧ ((IntKind.i64.wrap ((↑x2 : Int) + (1 : Int)) = (↑x3 : Int)) ∧ (((x3 ≤ s.length) ∧ ((s ≠ []) ∧ ((s.length ≤ (16 : Nat)) ∧ (nmN s x3 = true)))) ∧ ((s.length - x3 < s.length - x2) ∧ (True)))))))))) ∧ ((decide ((↑(s.getD x2 (0 : UInt8)).toNat : Int) < (48 : Int)) = false) → (((decide ((57 : Int) < (↑(s.getD x2 (0 : UInt8)).toNat : Int)) = true) → ((((!decide ((↑(s.getD x2 (0 : UInt8)).toNat : Int) = (45 : Int))) = true) → ((nmB s = false) ∧ (True))) ∧ (((!decide ((↑(s.getD x2 (0 : UInt8)).toNat : Int) = (45 : Int))) = false) → (∃ (x4 : Nat), ((s = s) ∧ (((↑s.length : Int) = (↑s.length : Int)) ∧ ((IntKind.i64.wrap ((↑x2 : Int) + (1 : Int)) = (↑x4 : Int)) ∧ (((x4 ≤ s.length) ∧ ((s ≠ []) ∧ ((s.length ≤ (16 : Nat)) ∧ (nmN s x4 = true)))) ∧ ((s.length - x4 < s.length - x2) ∧ (True)))))))))) ∧ ((decide ((57 : Int) < (↑(s.getD x2 (0 : UInt8)).toNat : Int)) = false) → (∃ (x5 : Nat), ((s = s) ∧ (((↑s.length : Int) = (↑s.length : Int)) ∧ ((IntKind.i64.wrap ((↑x2 : Int) + (1 : Int)) = (↑x5 : Int)) ∧ (((x5 ≤ s.length) ∧ ((s ≠ []) ∧ ((s.length ≤ (16 : Nat)) ∧ (nmN s x5 = true)))) ∧ ((s.length - x5 < s.length - x2) ∧ (True)))))))))))))) ∧ (((!decide ((↑(s.getD x2 (0 : UInt8)).toNat : Int) ≤ (122 : Int))) = false) → (∃ (x6 : Nat), ((s = s) ∧ (((↑s.length : Int) = (↑s.length : Int)) ∧ ((IntKind.i64.wrap ((↑x2 : Int) + (1 : Int)) = (↑x6 : Int)) ∧ (((x6 ≤ s.length) ∧ ((s ≠ []) ∧ ((s.length ≤ (16 : Nat)) ∧ (nmN s x6 = true)))) ∧ ((s.length - x6 < s.length - x2) ∧ (True)))))))))) ∧ ((decide ((97 : Int) ≤ (↑(s.getD x2 (0 : UInt8)).toNat : Int)) = false) → (((decide ((↑x2 : Int) = (0 : Int)) = true) → ((nmB s = false) ∧ (True))) ∧ ((decide ((↑x2 : Int) = (0 : Int)) = false) → (((decide ((↑(s.getD x2 (0 : UInt8)).toNat : Int) < (48 : Int)) = true) → ((((!decide ((↑(s.getD x2 (0 : UInt8)).toNat : Int) = (45 : Int))) = true) → ((nmB s = false) ∧ (True))) ∧ (((!decide ((↑(s.getD x2 (0 : UInt8)).toNat : Int) = (45 : Int))) = false) → (∃ (x7 : Nat), ((s = s) ∧ (((↑s.length : Int) = (↑s.length : Int)) ∧ ((IntKind.i64.wrap ((↑x2 : Int) + (1 : Int)) = (↑x7 : Int)) ∧ (((x7 ≤ s.length) ∧ ((s ≠ []) ∧ ((s.length ≤ (16 : Nat)) ∧ (nmN s x7 = true)))) ∧ ((s.length - x7 < s.length - x2) ∧ (True)))))))))) ∧ ((decide ((↑(s.getD x2 (0 : UInt8)).toNat : Int) < (48 : Int)) = false) → (((decide ((57 : Int) < (↑(s.getD x2 (0 : UInt8)).toNat : Int)) = true) → ((((!decide ((↑(s.getD x2 (0 : UInt8)).toNat : Int) = (45 : Int))) = true) → ((nmB s = false) ∧ (True))) ∧ (((!decide ((↑(s.getD x2 (0 : UInt8)).toNat : Int) = (45 : Int))) = false) → (∃ (x8 : Nat), ((s = s) ∧ (((↑s.length : Int) = (↑s.length : Int)) ∧ ((IntKind.i64.wrap ((↑x2 : Int) + (1 : Int)) = (↑x8 : Int)) ∧ (((x8 ≤ s.length) ∧ ((s ≠ []) ∧ ((s.length ≤ (16 : Nat)) ∧ (nmN s x8 = true)))) ∧ ((s.length - x8 < s.length - x2) ∧ (True)))))))))) ∧ ((decide ((57 : Int) < (↑(s.getD x2 (0 : UInt8)).toNat : Int)) = false) → (∃ (x9 : Nat), ((s = s) ∧ (((↑s.length : Int) = (↑s.length : Int)) ∧ ((IntKind.i64.wrap ((↑x2 : Int) + (1 : Int)) = (↑x9 : Int)) ∧ (((x9 ≤ s.length) ∧ ((s ≠ []) ∧ ((s.length ≤ (16 : Nat)) ∧ (nmN s x9 = true)))) ∧ ((s.length - x9 < s.length - x2) ∧ (True))))))))))))))))) ∧ ((decide ((↑x2 : Int) < (↑s.length : Int)) = false) → ((nmB s = true) ∧ (True)))))))))))) := by kernel_rfl
theorem nmB_no {s : List UInt8} {i : Nat} (h : i < s.length) (hc : nmC i (s.getD i 0) = false) : nmB s = false := by
  have : ∀ n, i < n → nmN s n = false := by
    intro n
    induction n with
    | zero => intro h; omega
    | succ n ih =>
      intro h
      simp only [nmN]
      rcases Nat.lt_or_ge i n with h1 | h1
      · rw [ih h1]; rfl
      · rw [show n = i by omega, hc, Bool.and_false]
  unfold nmB; rw [this _ h, Bool.and_false]
theorem nmC_iff {i : Nat} {c : UInt8} : nmC i c = true ↔ (97 ≤ c.toNat ∧ c.toNat ≤ 122) ∨ (i ≠ 0 ∧ ((48 ≤ c.toNat ∧ c.toNat ≤ 57) ∨ c.toNat = 45)) := by
  simp [nmC]
theorem nmC_no {i : Nat} {c : UInt8} (h : ¬ ((97 ≤ c.toNat ∧ c.toNat ≤ 122) ∨ (i ≠ 0 ∧ ((48 ≤ c.toNat ∧ c.toNat ≤ 57) ∨ c.toNat = 45)))) : nmC i c = false := by
  cases hh : nmC i c with
  | false => rfl
  | true => exact absurd (nmC_iff.1 hh) h

theorem wname1_known : Known Tryd.prog 18 wname1C := by
  refine known1 (nt := 46) (An := fun s => (nm_an s)) (labs := []) (lit := false) (em := em_wname1) sh_wname1_le (by kernel_rfl) mixedT tyT_ok .nil Tryd.func18 (by kernel_rfl) (fun a => by kernel_rfl) (fun a => by rfl) (fun s ha => ?_)
  refine ⟨_, vc_wname1 s, ?_⟩
  simp only [Int.reduceLE, Int.reduceLT, Int.reduceEq, Int.reduceNe, Nat.reduceLeDiff, Nat.reduceEqDiff, beq_eq_false_iff_ne, beq_iff_eq, decide_eq_decide, ne_eq, eq_self, true_and, and_true, and_self, and_false, false_and, Bool.not_true, Bool.not_false, Bool.false_eq_true, Bool.true_eq_false, false_implies, true_implies, implies_true, imp_false, not_true, not_false_eq_true, decide_eq_true_eq, decide_eq_false_iff_not, Bool.not_eq_true', Bool.not_eq_false', Bool.and_eq_true, Classical.not_not, decide_true, decide_false, Bool.and_true, Bool.true_and, if_true, if_false, Ob_iff]
  refine ⟨fun h => by unfold nmB; simp [h], fun h => ⟨fun h16 => ?_, fun h16 => ⟨⟨0, rfl, by omega, h, by omega, rfl⟩, fun i hi => ⟨fun hlt => ?_, fun hge => ?_⟩⟩⟩⟩
  · have : ¬ s.length ≤ 16 := by omega
    unfold nmB; simp [this]
  · obtain ⟨i1, i2, i3, i4⟩ := hi
    have bad : ¬ ((97 ≤ (s.getD i 0).toNat ∧ (s.getD i 0).toNat ≤ 122) ∨ (i ≠ 0 ∧ ((48 ≤ (s.getD i 0).toNat ∧ (s.getD i 0).toNat ≤ 57) ∨ (s.getD i 0).toNat = 45))) → nmB s = false := fun hn => nmB_no (by omega) (nmC_no hn)
    have good : ((97 ≤ (s.getD i 0).toNat ∧ (s.getD i 0).toNat ≤ 122) ∨ (i ≠ 0 ∧ ((48 ≤ (s.getD i 0).toNat ∧ (s.getD i 0).toNat ≤ 57) ∨ (s.getD i 0).toNat = 45))) → ∃ x3 : Nat, IntKind.i64.wrap ((i : Int) + 1) = (x3 : Int) ∧ (x3 ≤ s.length ∧ ¬ s = [] ∧ s.length ≤ 16 ∧ nmN s x3 = true) ∧ s.length - x3 < s.length - i := fun hg =>
      ⟨i + 1, by rw [wrapI (by omega)]; omega, ⟨by omega, i2, i3, by simp only [nmN]; rw [i4, nmC_iff.2 hg]; rfl⟩, by omega⟩
    refine ⟨by omega, fun h1 => ⟨fun h2 => ⟨fun h3 => bad (by omega), fun h3 => ⟨fun h4 => ⟨fun h5 => bad (by omega), fun h5 => good (by omega)⟩, fun h4 => ⟨fun h5 => ⟨fun h6 => bad (by omega), fun h6 => good (by omega)⟩, fun h5 => good (by omega)⟩⟩⟩, fun h2 => good (by omega)⟩,
      fun h1 => ⟨fun h3 => bad (by omega), fun h3 => ⟨fun h4 => ⟨fun h5 => bad (by omega), fun h5 => good (by omega)⟩, fun h4 => ⟨fun h5 => ⟨fun h6 => bad (by omega), fun h6 => good (by omega)⟩, fun h5 => good (by omega)⟩⟩⟩⟩
  · have : i = s.length := by omega
    subst this
    unfold nmB; simp [h, hi.2.2.1, hi.2.2.2]


/-- A word that needs no quotes. -/
def bareW (w : List UInt8) : Bool := !decide (w = []) && w.all plnB
theorem cut_word {r : List UInt8} {o : List (List UInt8)} : ∀ {w : List UInt8} {a : List UInt8}, w.all plnB = true → cutS (w ++ r) (.w a) o = cutS r (.w (a ++ w)) o
  | [], a, _ => by simp
  | c :: w, a, h => by
    rw [List.all_cons, Bool.and_eq_true] at h
    rw [List.cons_append, cutS, if_pos h.1, cut_word h.2, List.append_assoc]; rfl
theorem cut_bare {w r : List UInt8} {o : List (List UInt8)} (h : bareW w = true) (ho : o.length < 32) : cutS (w ++ r) .b o = cutS r (.w w) o := by
  unfold bareW at h
  rw [Bool.and_eq_true] at h
  match w, h with
  | c :: w, h =>
    rw [List.all_cons, Bool.and_eq_true] at h
    have q := plnB_iff.1 h.2.1
    rw [List.cons_append, cutS, if_neg (by omega), if_neg (by omega), if_neg (by omega), if_neg (by omega), if_pos h.2.1, cut_word h.2.2]; rfl
theorem cut_next {w r : List UInt8} {o : List (List UInt8)} : cutS (32 :: r) (.w w) o = cutS r .b (o ++ [w]) := by
  rw [cutS, if_neg (by decide), if_pos (by decide)]
theorem cut3 {a b c : List UInt8} (ha : bareW a = true) (hb : bareW b = true) (hc : bareW c = true) (hl : (a ++ [32] ++ b ++ [32] ++ c).length ≤ 512) : cutR (a ++ [32] ++ b ++ [32] ++ c) = ([a, b, c], 0) := by
  unfold cutR
  rw [if_neg (by omega)]
  have e : a ++ [32] ++ b ++ [32] ++ c = a ++ (32 :: (b ++ (32 :: (c ++ [])))) := by simp
  rw [e, cut_bare ha (by simp), cut_next, cut_bare hb (by simp), cut_next, cut_bare hc (by simp)]
  rfl
theorem cut2 {a b : List UInt8} (ha : bareW a = true) (hb : bareW b = true) (hl : (a ++ [32] ++ b).length ≤ 512) : cutR (a ++ [32] ++ b) = ([a, b], 0) := by
  unfold cutR
  rw [if_neg (by omega)]
  have e : a ++ [32] ++ b = a ++ (32 :: (b ++ [])) := by simp
  rw [e, cut_bare ha (by simp), cut_next, cut_bare hb (by simp)]
  rfl
theorem nmN_get {s : List UInt8} {i : Nat} : ∀ {n : Nat}, nmN s n = true → i < n → nmC i (s.getD i 0) = true
  | 0, _, h => by omega
  | n + 1, h, hi => by
    simp only [nmN, Bool.and_eq_true] at h
    rcases Nat.lt_or_ge i n with h1 | h1
    · exact nmN_get h.1 h1
    · rw [show i = n by omega]; exact h.2
theorem nm_bare {s : List UInt8} (h : nmB s = true) : bareW s = true ∧ s.length ≤ 16 := by
  simp only [nmB, Bool.and_eq_true, Bool.not_eq_true', decide_eq_false_iff_not, decide_eq_true_eq] at h
  refine ⟨?_, h.1.2⟩
  unfold bareW
  rw [Bool.and_eq_true]
  refine ⟨by simpa using h.1.1, ?_⟩
  rw [List.all_eq_true]
  intro c hc
  obtain ⟨i, hi, rfl⟩ := List.mem_iff_getElem.1 hc
  have q := nmC_iff.1 (nmN_get h.2 hi)
  rw [List.getD_eq_getElem?_getD, List.getElem?_eq_getElem hi] at q
  simp only [Option.getD_some] at q
  exact plnB_iff.2 (by omega)
end Go.Rx
