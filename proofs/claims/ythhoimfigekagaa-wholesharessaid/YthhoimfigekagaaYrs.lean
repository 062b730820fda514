/- A year: sums of both sides; payslips that hang together. -/
import Derived.Test.YthhoimfigekagaaMon
namespace Go.Rx
open Go.Proofs
set_option linter.unusedSimpArgs false
set_option linter.unusedVariables false

def shK : List CK := [.int .i64, .int .i64]
def tkK : List CK := [.int .i64, .int .i64, .int .i64, .int .i64, .int .i64, .int .i64]
/-- A row's cell. -/
def cl (l : List SV) (i k : Nat) : Int := (elCell l i k).toInt
def colS (l : List SV) (k : Nat) : Nat → Int
  | 0 => 0
  | i + 1 => colS l k i + cl l i k
def totB (l : List SV) : Nat → Bool
  | 0 => true
  | i + 1 => totB l i && (addB (colS l 0 i) (cl l i 0) && addB (colS l 1 i) (cl l i 1))
def totV (l : List SV) (k : Nat) : Int := if totB l l.length = true then colS l k l.length else 0
def tot_an (l : List SV) : Nat → Option Ann
  | 0 => some ⟨Nat, fun i => ⟨[(2, .ptr 2 0), (4, .ptr 4 0), (10, .sl shK l), (11, .int .i64 l.length), (12, .int .i64 i)], [(2, .box 47 [.int .i64 0, .int .i64 0]), (4, .box 47 [.int .i64 (colS l 0 i), .int .i64 (colS l 1 i)])]⟩, fun i => i ≤ l.length ∧ l.length ≤ 9000000000000000000 ∧ totB l i = true, fun i => l.length - i, [2, 4, 10, 11, 12], [2, 4], [], fun _ _ => none⟩
  | _ => none
def takB (l : List SV) : Nat → Bool
  | 0 => true
  | i + 1 => takB l i && addB (colS l 4 i) (cl l i 4)
def takV (l : List SV) : Int := if takB l l.length = true then colS l 4 l.length else 0
def tak_an (l : List SV) : Nat → Option Ann
  | 0 => some ⟨Nat, fun i => ⟨[(4, .int .i64 (colS l 4 i)), (9, .sl tkK l), (10, .int .i64 l.length), (11, .int .i64 i)], []⟩, fun i => i ≤ l.length ∧ l.length ≤ 9000000000000000000 ∧ takB l i = true, fun i => l.length - i, [4, 9, 10, 11], [], [], fun _ _ => none⟩
  | _ => none

def r3 (c t s : Int) : Bool := rightB c && (rightB t && rightB s)
def yB (c t s d u v : Int) : Bool := addB c d && (addB t u && addB s v)
def yV (b : Bool) (x y : Int) : Int := if b = true then x + y else 0
def yboth_an : Nat → Option Ann
  | 3000 => some (unroll 4 [2, 6, 8, 31, 32] [6, 8])
  | _ => none
def chkY (p c t s x h : Int) (S : List SV) (n : Int) (T : List SV) (y m : Int) : Int :=
  if p < 1 ∨ 53 < p then 1 else if (S.length : Int) ≠ m then 3 else if totB S S.length = false then 10
  else if r3 c t s = false ∨ (rightB x && (rightB h && (rightB n && rightB y))) = false then 10 else if takB T T.length = false then 10
  else if c - x - colS S 0 S.length ≠ n ∨ n - colS T 4 T.length ≠ y then 5 else 0

def sh_total : List SV → Option (List SV)
  | [l'] => (match slOf [.int .i64, .int .i64] l' with | some l => some l | _ => none)
  | _ => none
def em_total : List SV → List SV := fun l => [.sl [.int .i64, .int .i64] l]
theorem sh_total_le : ∀ us a, sh_total us = some a → leL us (em_total a) := by
  intro us a h
  unfold sh_total at h
  split at h
  · split at h
    · cases h; exact (.cons (.sl (by assumption)) .nil)
    · cases h
  · cases h
def totalC : Con := conOf sh_total (fun l => some (Ob (l.length ≤ 9000000000000000000))) (fun l => .tup [.agg [.int .i64 (totV l 0), .int .i64 (totV l 1)], .int .i64 (chkE (totB l l.length))])
set_option maxRecDepth 100000 in
theorem vc_total (l : List SV) : (wpF ⟨45, tyT, [(27, maddC)], false, 0, [], false⟩ ((tot_an l)) [] Try.f15 (em_total l) (.tup [.agg [.int .i64 (totV l 0), .int .i64 (totV l 1)], .int .i64 (chkE (totB l l.length))])) = (((∃ (x1 : Nat), ((l = l) ∧ (((↑l.length : Int) = (↑l.length : Int)) ∧ (((0 : Int) = (↑x1 : Int)) ∧ (((0 : Int) = (0 : Int)) ∧ (((0 : Int) = (0 : Int)) ∧ (((0 : Int) = colS l (0 : Nat) x1) ∧ (((0 : Int) = colS l (1 : Nat) x1) ∧ (((x1 ≤ l.length) ∧ ((l.length ≤ (9000000000000000000 : Nat)) ∧ (totB l x1 = true))) ∧ ((True) ∧ (True))))))))))) ∧ (∀ (x2 : Nat), (((x2 ≤ l.length) ∧ ((l.length ≤ (9000000000000000000 : Nat)) ∧ (totB l x2 = true))) → (((decide ((↑x2 : Int) < (↑l.length : Int)) = true) → (Ob ((((0 : Int) ≤ (↑x2 : Int)) ∧ ((↑x2 : Int) < (↑l.length : Int)))) ∧ ((((!decide (chkE (addB (colS l (0 : Nat) x2) (elCell l x2 (0 : Nat)).toInt) = (0 : Int))) = true) → (((0 : Int) = totV l (0 : Nat)) ∧ (((0 : Int) = totV l (1 : Nat)) ∧ ((chkE (addB (colS l (0 : Nat) x2) (elCell l x2 (0 : Nat)).toInt) = chkE (totB l l.length)) ∧ (True))))) ∧ (((!decide (chkE (addB (colS l (0 : Nat) x2) (elCell l x2 (0 : Nat)).toInt) = (0 : Int))) = false) → ((((!decide (chkE (addB (colS l (1 : Nat) x2) (elCell l x2 (1 : Nat)).toInt) = (0 : Int))) = true) → (((0 : Int) = totV l (0 : Nat)) ∧ (((0 : Int) = totV l (1 : Nat)) ∧ ((chkE (addB (colS l (1 : Nat) x2) (elCell l x2 (1 : Nat)).toInt) = chkE (totB l l.length)) ∧ (True))))) ∧ (((!decide (chkE (addB (colS l (1 : Nat) x2) (elCell l x2 (1 : Nat)).toInt) = (0 : Int))) = false) → (∃ (x3 : Nat), ((l = l) ∧ (((↑l.length : Int) = (↑l.length : Int)) ∧ ((IntKind.i64.wrap ((↑x2 : Int) + (1 : Int)) = (↑x3 : Int)) ∧ (((0 : Int) = (0 : Int)) ∧ (((0 : Int) = (0 : Int)) ∧ ((addV (colS l (0 : Nat) x2) (elCell l x2 (0 : Nat)).toInt = colS l (0 : Nat) x3) ∧ ((addV (colS l (1 : Nat) x2) (elCell l x2 (1 : Nat)).toInt = colS l (1 : Nat) x3) ∧ (((x3 ≤ l.length) ∧ ((l.length ≤ (9000000000000000000 : Nat)) ∧ (totB l x3 = true))) ∧ ((l.length - x3 < l.length - x2) ∧ (True))))))))))))))))) ∧ ((decide ((↑x2 : Int) < (↑l.length : Int)) = false) → ((colS l (0 : Nat) x2 = totV l (0 : Nat)) ∧ ((colS l (1 : Nat) x2 = totV l (1 : Nat)) ∧ (((0 : Int) = chkE (totB l l.length)) ∧ (True)))))))))) := by kernel_rfl
def sh_sides : List SV → Option (List SV)
  | [l'] => (match slOf [.int .i64, .int .i64] l' with | some l => some l | _ => none)
  | _ => none
def em_sides : List SV → List SV := fun l => [.sl [.int .i64, .int .i64] l]
theorem sh_sides_le : ∀ us a, sh_sides us = some a → leL us (em_sides a) := by
  intro us a h
  unfold sh_sides at h
  split at h
  · split at h
    · cases h; exact (.cons (.sl (by assumption)) .nil)
    · cases h
  · cases h
def sidesC : Con := conOf sh_sides (fun l => some (Ob (l.length ≤ 9000000000000000000))) (fun l => .tup [.agg [.int .i64 (totV l 0), .int .i64 (totV l 1)], .int .i64 (chkE (totB l l.length))])
set_option maxRecDepth 100000 in
theorem vc_sides (l : List SV) : (wpF ⟨8, tyT, [(15, totalC)], false, 0, [], false⟩ (noAnn) [] Try.f14 (em_sides l) (.tup [.agg [.int .i64 (totV l 0), .int .i64 (totV l 1)], .int .i64 (chkE (totB l l.length))])) = ((Ob ((l.length ≤ (9000000000000000000 : Nat))) ∧ ((totV l (0 : Nat) = totV l (0 : Nat)) ∧ ((totV l (1 : Nat) = totV l (1 : Nat)) ∧ ((chkE (totB l l.length) = chkE (totB l l.length)) ∧ (True)))))) := by kernel_rfl
def sh_bright : List SV → Option (Int × Int × Int)
  | [.agg [.int .i64 c, .int .i64 t, .int .i64 s]] => some (c, t, s)
  | _ => none
def em_bright : Int × Int × Int → List SV := fun (c, t, s) => [.agg [.int .i64 c, .int .i64 t, .int .i64 s]]
theorem sh_bright_le : ∀ us a, sh_bright us = some a → leL us (em_bright a) := by
  intro us a h
  unfold sh_bright at h
  split at h
  · cases h; exact (.cons (.agg (.cons (.refl _) (.cons (.refl _) (.cons (.refl _) .nil)))) .nil)
  · cases h
def brightC : Con := conOf sh_bright (fun _ => none) (fun (c, t, s) => .bool (r3 c t s))
set_option maxRecDepth 100000 in
theorem vc_bright (c : Int) (t : Int) (s : Int) : (wpF ⟨11, tyT, [(37, rightC)], false, 0, [], false⟩ (noAnn) [] Try.f41 (em_bright (c, t, s)) (.bool (r3 c t s))) = ((Ob (((3 : Nat) ≤ (9000000000000000000 : Nat))) ∧ ((rightL [SV.int IntKind.i64 c, SV.int IntKind.i64 t, SV.int IntKind.i64 s] = r3 c t s) ∧ (True)))) := by kernel_rfl
theorem addB_iff {x y : Int} : addB x y = true ↔ (rightB x = true ∧ rightB y = true) ∧ rightB (x + y) = true := by simp [addB]
theorem cl_eq (l : List SV) (i k : Nat) : (elCell l i k).toInt = cl l i k := rfl
theorem colS_right {l : List SV} : ∀ {i : Nat}, totB l i = true → rightB (colS l 0 i) = true ∧ rightB (colS l 1 i) = true
  | 0, _ => ⟨rfl, rfl⟩
  | i + 1, h => by
    simp only [totB, Bool.and_eq_true, addB_iff] at h
    exact ⟨h.2.1.2, h.2.2.2⟩
theorem totB_no {l : List SV} {i : Nat} (h : totB l i = false) : ∀ n, i ≤ n → totB l n = false
  | 0, hn => by rw [Nat.le_zero.1 hn] at h; exact h
  | n + 1, hn => by
    rcases Nat.lt_or_ge i (n + 1) with h1 | h1
    · simp only [totB]; rw [totB_no h n (by omega)]; rfl
    · rw [show n + 1 = i by omega]; exact h
theorem takB_no {l : List SV} {i : Nat} (h : takB l i = false) : ∀ n, i ≤ n → takB l n = false
  | 0, hn => by rw [Nat.le_zero.1 hn] at h; exact h
  | n + 1, hn => by
    rcases Nat.lt_or_ge i (n + 1) with h1 | h1
    · simp only [takB]; rw [takB_no h n (by omega)]; rfl
    · rw [show n + 1 = i by omega]; exact h
theorem chkE_ne {b : Bool} : ¬ chkE b = 0 ↔ b = false := by cases b <;> simp [chkE]
theorem chkE_z {b : Bool} : chkE b = 0 ↔ b = true := by cases b <;> simp [chkE]
theorem not_t {b : Bool} : ¬ b = true ↔ b = false := by cases b <;> simp
theorem totV_no {l : List SV} {k : Nat} (h : totB l l.length = false) : totV l k = 0 := by unfold totV; rw [if_neg (by rw [h]; decide)]
theorem totV_ok {l : List SV} {k : Nat} (h : totB l l.length = true) : totV l k = colS l k l.length := by unfold totV; rw [if_pos h]
theorem takV_no {l : List SV} (h : takB l l.length = false) : takV l = 0 := by unfold takV; rw [if_neg (by rw [h]; decide)]
theorem takV_ok {l : List SV} (h : takB l l.length = true) : takV l = colS l 4 l.length := by unfold takV; rw [if_pos h]
theorem addV_ok {x y : Int} (h : addB x y = true) : addV x y = x + y := by unfold addV; rw [if_pos h]
theorem colT_right {l : List SV} : ∀ {i : Nat}, takB l i = true → rightB (colS l 4 i) = true
  | 0, _ => rfl
  | i + 1, h => by
    simp only [takB, Bool.and_eq_true, addB_iff] at h
    exact h.2.2

theorem total_known : Known Try.prog 15 totalC := by
  refine known1 (nt := 45) (An := fun l => (tot_an l)) (labs := []) (lit := false) (em := em_total) sh_total_le (by kernel_rfl) mixedT tyT_ok (.cons madd_known .nil) Try.func15 (by kernel_rfl) (fun a => by kernel_rfl) (fun a => by rfl) (fun l ha => ?_)
  replace ha : l.length ≤ 9000000000000000000 := ha.out
  refine ⟨_, vc_total l, ?_⟩
  simp only [Int.reduceLE, Int.reduceLT, Int.reduceEq, Int.reduceNe, Nat.reduceLeDiff, Nat.reduceEqDiff, beq_eq_false_iff_ne, beq_iff_eq, decide_eq_decide, ne_eq, eq_self, true_and, and_true, and_self, and_false, false_and, Bool.not_true, Bool.not_false, Bool.false_eq_true, Bool.true_eq_false, false_implies, true_implies, implies_true, imp_false, not_true, not_false_eq_true, decide_eq_true_eq, decide_eq_false_iff_not, Bool.not_eq_true', Bool.not_eq_false', Bool.and_eq_true, Classical.not_not, decide_true, decide_false, Bool.and_true, Bool.true_and, if_true, if_false, Ob_iff]
  simp only [cl_eq, chkE_z, not_t]
  refine ⟨⟨0, rfl, rfl, rfl, by omega, ha, rfl⟩, fun i hi => ⟨fun hlt => ⟨by omega, fun he => ?_, fun he => ⟨fun hf => ?_, fun hf => ⟨i + 1, by rw [wrapI (by omega)]; omega, ?_, ?_, ⟨by omega, ha, ?_⟩, by omega⟩⟩⟩, fun hge => ?_⟩⟩
  · have hb : totB l l.length = false := totB_no (i := i + 1) (by simp only [totB, he]; simp) _ (by omega)
    rw [totV_no hb, totV_no hb, hb, he]; exact ⟨rfl, rfl, rfl⟩
  · have hb : totB l l.length = false := totB_no (i := i + 1) (by simp only [totB, hf]; simp) _ (by omega)
    rw [totV_no hb, totV_no hb, hb, hf]; exact ⟨rfl, rfl, rfl⟩
  · rw [addV_ok he]; rfl
  · rw [addV_ok hf]; rfl
  · simp only [totB, hi.2.2, he, hf]; rfl
  · have e : i = l.length := by omega
    subst e
    rw [totV_ok hi.2.2, totV_ok hi.2.2, hi.2.2]; exact ⟨rfl, rfl, rfl⟩

theorem sides_known : Known Try.prog 14 sidesC := by
  refine known1 (nt := 8) (An := fun l => noAnn) (labs := []) (lit := false) (em := em_sides) sh_sides_le (by kernel_rfl) mixedT tyT_ok (.cons total_known .nil) Try.func14 (by kernel_rfl) (fun a => by kernel_rfl) (fun a => by rfl) (fun l ha => ?_)
  replace ha : l.length ≤ 9000000000000000000 := ha.out
  refine ⟨_, vc_sides l, ?_⟩
  simp only [Int.reduceLE, Int.reduceLT, Int.reduceEq, Int.reduceNe, Nat.reduceLeDiff, Nat.reduceEqDiff, beq_eq_false_iff_ne, beq_iff_eq, decide_eq_decide, ne_eq, eq_self, true_and, and_true, and_self, and_false, false_and, Bool.not_true, Bool.not_false, Bool.false_eq_true, Bool.true_eq_false, false_implies, true_implies, implies_true, imp_false, not_true, not_false_eq_true, decide_eq_true_eq, decide_eq_false_iff_not, Bool.not_eq_true', Bool.not_eq_false', Bool.and_eq_true, Classical.not_not, decide_true, decide_false, Bool.and_true, Bool.true_and, if_true, if_false, Ob_iff]
  exact ha



theorem rightL3 (c t s : Int) : rightL [.int .i64 c, .int .i64 t, .int .i64 s] = r3 c t s := by simp [rightL, ints, elCell, SV.cells, SV.toInt, r3, List.range, List.range.loop]
theorem rightL4 (c t s n : Int) : rightL [.int .i64 c, .int .i64 t, .int .i64 s, .int .i64 n] = (rightB c && (rightB t && (rightB s && rightB n))) := by simp [rightL, ints, elCell, SV.cells, SV.toInt, List.range, List.range.loop]
theorem bright_known : Known Try.prog 41 brightC := by
  refine known1 (nt := 11) (An := fun (c, t, s) => noAnn) (labs := []) (lit := false) (em := em_bright) sh_bright_le (by kernel_rfl) mixedT tyT_ok (.cons right_known .nil) Try.func41 (by kernel_rfl) (fun a => by obtain ⟨c, t, s⟩ := a; kernel_rfl) (fun a => by obtain ⟨c, t, s⟩ := a; rfl) (fun a ha => ?_)
  obtain ⟨c, t, s⟩ := a
  refine ⟨_, vc_bright c t s, ?_⟩
  simp only [Int.reduceLE, Int.reduceLT, Int.reduceEq, Int.reduceNe, Nat.reduceLeDiff, Nat.reduceEqDiff, beq_eq_false_iff_ne, beq_iff_eq, decide_eq_decide, ne_eq, eq_self, true_and, and_true, and_self, and_false, false_and, Bool.not_true, Bool.not_false, Bool.false_eq_true, Bool.true_eq_false, false_implies, true_implies, implies_true, imp_false, not_true, not_false_eq_true, decide_eq_true_eq, decide_eq_false_iff_not, Bool.not_eq_true', Bool.not_eq_false', Bool.and_eq_true, Classical.not_not, decide_true, decide_false, Bool.and_true, Bool.true_and, if_true, if_false, Ob_iff]
  exact rightL3 c t s




end Go.Rx
