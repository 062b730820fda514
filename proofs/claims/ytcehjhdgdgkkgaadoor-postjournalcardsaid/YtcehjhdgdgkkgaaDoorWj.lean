/- Words joined to a line, which is cut into them again. -/
import Derived.Test.YtcehjhdgdgkkgaaDoorJ4
namespace Go.Rx
open Go.Proofs
set_option linter.unusedSimpArgs false
set_option linter.unusedVariables false

def quoV (s : List UInt8) : List UInt8 := if s.all shwB = true then (if bareW s = true then s else [34] ++ s ++ [34]) else []
def quoE (s : List UInt8) : Int := if s.all shwB = true then 0 else 5
def quo_an (s : List UInt8) : Nat → Option Ann
  | 0 => some ⟨Nat, fun i => ⟨[(0, .str s), (4, .bool (!decide (s = []) && (s.take i).all plnB)), (9, .int .i64 s.length), (10, .int .i64 i)], []⟩, fun i => i ≤ s.length ∧ (s.take i).all shwB = true, fun i => s.length - i, [0, 4, 9, 10], [], [], fun _ _ => none⟩
  | _ => none
def sh_wquote : List SV → Option (List UInt8)
  | [.str s] => some s
  | _ => none
def em_wquote : List UInt8 → List SV := fun s => [.str s]
theorem sh_wquote_le : ∀ us a, sh_wquote us = some a → leL us (em_wquote a) := by
  intro us a h
  unfold sh_wquote at h
  split at h
  · cases h; exact (.cons (.refl _) .nil)
  · cases h
def wquoteC : Con := conOf sh_wquote (fun s => some (Ob (s.length ≤ 1000000))) (fun s => .tup [.str (quoV s), .int .i64 (quoE s)])
set_option maxRecDepth 100000 in
theorem vc_wquote (s : List UInt8) : (wpF ⟨31, tyT, [(42, wplainC), (43, wshownC)], false, 0, [], false⟩ ((quo_an s)) [] Tryd.f59 (em_wquote s) (.tup [.str (quoV s), .int .i64 (quoE s)])) = (((∃ (x1 : Nat), ((s = s) ∧ (((!decide (s = [])) = (!decide (s = []) && (List.take x1 s).all plnB)) ∧ (((↑s.length : Int) = (↑s.length : Int)) ∧ (((0 : Int) = (↑x1 : Int)) ∧ (((x1 ≤ s.length) ∧ ((List.take x1 s).all shwB = true)) ∧ ((True) ∧ (True)))))))) ∧ (∀ (x2 : Nat), (((x2 ≤ s.length) ∧ ((List.take x2 s).all shwB = true)) → (((decide ((↑x2 : Int) < (↑s.length : Int)) = true) → (Ob ((((0 : Int) ≤ (↑x2 : Int)) ∧ ((↑x2 : Int) < (↑s.length : Int)))) ∧ (Ob ((((0 : Int) ≤ (↑(s.getD x2 (0 : UInt8)).toNat : Int)) ∧ ((↑(s.getD x2 (0 : UInt8)).toNat : Int) ≤ (255 : Int)))) ∧ ((((!shwB (UInt8.ofNat (s.getD x2 (0 : UInt8)).toNat)) = true) → (([] = quoV s) ∧ (((5 : Int) = quoE s) ∧ (True)))) ∧ (((!shwB (UInt8.ofNat (s.getD x2 (0 : UInt8)).toNat)) = false) → ((((!decide (s = []) && (List.take x2 s).all plnB) = true) → (Ob ((((0 : Int) ≤ (↑x2 : Int)) ∧ ((↑x2 : Int) < (↑s.length : Int)))) ∧ (Ob ((((0 : Int) ≤ (↑(s.getD x2 (0 : UInt8)).toNat : Int)) ∧ ((↑(s.getD x2 (0 : UInt8)).toNat : Int) ≤ (255 : Int)))) ∧ (∃ (x3 : Nat), ((s = s) ∧ ((plnB (UInt8.ofNat (s.getD x2 (0 : UInt8)).toNat) = (!decide (s = []) && (List.take x3 s).all plnB)) ∧ (((↑s.length : Int) = (↑s.length : Int)) ∧ ((IntKind.i64.wrap ((↑x2 : Int) + (1 : Int)) = (↑x3 : Int)) ∧ (((x3 ≤ s.length) ∧ ((List.take x3 s).all shwB = true)) ∧ ((s.length - x3 < s.length - x2) ∧ (True))))))))))) ∧ (((!decide (s = []) && (List.take x2 s).all plnB) = false) → (∃ (x4 : Nat), ((s = s) ∧ (((!decide (s = []) && (List.take x4 s).all plnB) = false) ∧ (((↑s.length : Int) = (↑s.length : Int)) ∧ ((IntKind.i64.wrap ((↑x2 : Int) + (1 : Int)) = (↑x4 : Int)) ∧ (((x4 ≤ s.length) ∧ ((List.take x4 s).all shwB = true)) ∧ ((s.length - x4 < s.length - x2) ∧ (True))))))))))))))) ∧ ((decide ((↑x2 : Int) < (↑s.length : Int)) = false) → ((((!decide (s = []) && (List.take x2 s).all plnB) = true) → ((s = quoV s) ∧ (((0 : Int) = quoE s) ∧ (True)))) ∧ (((!decide (s = []) && (List.take x2 s).all plnB) = false) → (Ob (((1 : Nat) + s.length ≤ (9223372036854775807 : Nat))) ∧ (Ob ((([(34 : UInt8)] ++ s).length + (1 : Nat) ≤ (9223372036854775807 : Nat))) ∧ (([(34 : UInt8)] ++ s ++ [(34 : UInt8)] = quoV s) ∧ (((0 : Int) = quoE s) ∧ (True))))))))))))) := by kernel_rfl
/-- Words as a line. -/
def jnA : List (List UInt8) → List UInt8
  | [] => []
  | [w] => quoV w
  | w :: x :: r => quoV w ++ 32 :: jnA (x :: r)
/-- What Join tells: after the words o, words l are still to come. -/
def jnR : List (List UInt8) → List (List UInt8) → List UInt8 × Int
  | o, [] => (jnA o, 0)
  | o, w :: r => if w.all shwB = false then ([], 5) else if 512 < (jnA (o ++ [w])).length then ([], 2) else jnR (o ++ [w]) r
def joiR (l : List (List UInt8)) : List UInt8 × Int := if 32 < l.length then ([], 2) else jnR [] l
theorem wquote_known : Known Tryd.prog 59 wquoteC := by
  refine known1 (nt := 31) (An := fun s => (quo_an s)) (labs := []) (lit := false) (em := em_wquote) sh_wquote_le (by kernel_rfl) mixedT tyT_ok (.cons wplain_known (.cons wshown_known .nil)) Tryd.func59 (by kernel_rfl) (fun a => by kernel_rfl) (fun a => by rfl) (fun s ha => ?_)
  replace ha : s.length ≤ 1000000 := ha.out
  refine ⟨_, vc_wquote s, ?_⟩
  simp only [Int.reduceLE, Int.reduceLT, Int.reduceEq, Int.reduceNe, Nat.reduceLeDiff, Nat.reduceEqDiff, beq_eq_false_iff_ne, beq_iff_eq, decide_eq_decide, ne_eq, eq_self, true_and, and_true, and_self, and_false, false_and, Bool.not_true, Bool.not_false, Bool.false_eq_true, Bool.true_eq_false, false_implies, true_implies, implies_true, imp_false, not_true, not_false_eq_true, decide_eq_true_eq, decide_eq_false_iff_not, Bool.not_eq_true', Bool.not_eq_false', Bool.and_eq_true, Classical.not_not, decide_true, decide_false, Bool.and_true, Bool.true_and, if_true, if_false, Ob_iff]
  have hall : ∀ (p : UInt8 → Bool) (i : Nat), i < s.length → (s.take (i + 1)).all p = ((s.take i).all p && p (s.getD i 0)) := fun p i hi => all_take p s 0 i hi
  refine ⟨⟨0, by simp, rfl, Nat.zero_le _, rfl⟩, fun i hi => ⟨fun hlt => ?_, fun hge => ?_⟩⟩
  · have hil : i < s.length := by omega
    have hb : (s.getD i 0).toNat < 256 := (s.getD i 0).toNat_lt
    rw [UInt8.ofNat_toNat]
    have hw : IntKind.i64.wrap ((i : Int) + 1) = ((i + 1 : Nat) : Int) := by rw [wrapI (by omega)]; rfl
    refine ⟨by omega, by omega, fun h => ?_, fun h => ⟨fun hb => ⟨by omega, by omega, i + 1, ?_, hw, ⟨by omega, by rw [hall _ _ hil, hi.2, h]; rfl⟩, by omega⟩, fun hb => ⟨i + 1, ?_, hw, ⟨by omega, by rw [hall _ _ hil, hi.2, h]; rfl⟩, by omega⟩⟩⟩
    · have hn : s.all shwB ≠ true := fun ha => by
        rw [List.all_eq_true] at ha
        have := ha (s.getD i 0) (by rw [List.getD_eq_getElem?_getD, List.getElem?_eq_getElem hil]; exact List.getElem_mem hil)
        rw [h] at this; cases this
      unfold quoV quoE
      rw [if_neg hn, if_neg hn]; exact ⟨rfl, rfl⟩
    · rw [hall _ _ hil, hb.2, decide_eq_false hb.1]; simp
    · rw [hall _ _ hil]
      cases h1 : (!decide (s = [])) with
      | false => rfl
      | true => rw [h1, Bool.true_and] at hb; rw [hb]; rfl
  · have e : i = s.length := by omega
    subst e
    rw [List.take_length] at hi ⊢
    have q2 := hi.2
    refine ⟨fun hb => ?_, fun hb => ⟨by omega, by simp; omega, ?_⟩⟩
    · have : bareW s = true := by unfold bareW; rw [hb.2, decide_eq_false hb.1]; rfl
      unfold quoV quoE
      rw [if_pos q2, if_pos q2, if_pos this]; exact ⟨rfl, rfl⟩
    · have : ¬ bareW s = true := by unfold bareW; rw [hb]; decide
      unfold quoV quoE
      rw [if_pos q2, if_pos q2, if_neg this]; exact ⟨rfl, rfl⟩

theorem jnA_snoc {w : List UInt8} : ∀ {l : List (List UInt8)}, l ≠ [] → jnA (l ++ [w]) = jnA l ++ ([32] ++ quoV w)
  | [], h => absurd rfl h
  | [x], _ => rfl
  | x :: y :: r, _ => by
    have ih := jnA_snoc (w := w) (l := y :: r) (by simp)
    show quoV x ++ 32 :: jnA ((y :: r) ++ [w]) = (quoV x ++ 32 :: jnA (y :: r)) ++ _
    rw [ih]; simp
theorem cut_shown {r : List UInt8} {o : List (List UInt8)} : ∀ {w : List UInt8} {a : List UInt8}, w.all shwB = true → cutS (w ++ r) (.q a) o = cutS r (.q (a ++ w)) o
  | [], a, _ => by simp
  | c :: w, a, h => by
    rw [List.all_cons, Bool.and_eq_true] at h
    rw [List.cons_append, cutS, if_pos h.1, cut_shown h.2, List.append_assoc]; rfl
theorem cut_one {w : List UInt8} {o : List (List UInt8)} (h : w.all shwB = true) (ho : o.length < 32) : cutS (quoV w) .b o = (o ++ [w], 0) ∧ ∀ r, cutS (quoV w ++ 32 :: r) .b o = cutS r .b (o ++ [w]) := by
  unfold quoV
  rw [if_pos h]
  by_cases hb : bareW w = true
  · rw [if_pos hb]
    refine ⟨?_, fun r => by rw [cut_bare hb ho, cut_next]⟩
    have := cut_bare (r := []) hb ho
    rw [List.append_nil] at this
    rw [this]; rfl
  · rw [if_neg hb]
    have q : ∀ r, cutS ([34] ++ w ++ [34] ++ r) .b o = cutS r .h (o ++ [w]) := fun r => by
      have e : [34] ++ w ++ [34] ++ r = 34 :: (w ++ (34 :: r)) := by simp
      rw [e, cutS, if_neg (by decide), if_neg (by decide), if_neg (by omega), if_pos (by decide), cut_shown h, cutS, if_neg (by decide), if_pos (by decide)]
      rfl
    refine ⟨?_, fun r => ?_⟩
    · have := q []
      rw [List.append_nil] at this
      rw [this]; rfl
    · rw [q, cutS, if_pos (by decide)]
theorem cut_all : ∀ {l o : List (List UInt8)}, l.all (fun w => w.all shwB) = true → o.length + l.length ≤ 32 → cutS (jnA l) .b o = (o ++ l, 0)
  | [], o, _, _ => by simp [jnA, cutS]
  | [w], o, h, hl => by
    simp only [List.all_cons, List.all_nil, Bool.and_true] at h
    simp only [List.length_cons, List.length_nil] at hl
    exact (cut_one h (by omega)).1
  | w :: x :: r, o, h, hl => by
    rw [List.all_cons, Bool.and_eq_true] at h
    simp only [List.length_cons] at hl
    show cutS (quoV w ++ 32 :: jnA (x :: r)) .b o = _
    rw [(cut_one h.1 (by omega)).2, cut_all h.2 (by simp only [List.length_append, List.length_cons, List.length_nil]; omega)]
    simp
theorem jnR_ok : ∀ {l o : List (List UInt8)}, (jnR o l).2 = 0 → o.all (fun w => w.all shwB) = true → (jnA o).length ≤ 512 → (jnR o l).1 = jnA (o ++ l) ∧ (o ++ l).all (fun w => w.all shwB) = true ∧ (jnA (o ++ l)).length ≤ 512
  | [], o, _, h2, h3 => by simp only [List.append_nil]; exact ⟨rfl, h2, h3⟩
  | w :: r, o, h1, h2, h3 => by
    unfold jnR at h1 ⊢
    split at h1
    · cases h1
    · rename_i hw
      rw [if_neg hw]
      split at h1
      · cases h1
      · rename_i hl
        rw [if_neg hl]
        have := jnR_ok (l := r) h1 (by rw [List.all_append, h2]; simp only [List.all_cons, List.all_nil, Bool.and_true, Bool.true_and]; simpa using hw) (by omega)
        rw [List.append_assoc] at this
        exact this
/-- A line that is joined is cut into its words. -/
theorem cut_join {l : List (List UInt8)} (h : (joiR l).2 = 0) : cutR (joiR l).1 = (l, 0) := by
  unfold joiR at h ⊢
  split at h
  · cases h
  · rename_i hl
    rw [if_neg hl]
    obtain ⟨h1, h2, h3⟩ := jnR_ok h (by rfl) (by simp [jnA])
    rw [h1]
    unfold cutR
    rw [List.nil_append] at h2 h3 ⊢
    rw [if_neg (by omega), cut_all h2 (by simp; omega)]
    simp
theorem quo_len (w : List UInt8) : (quoV w).length ≤ w.length + 2 := by
  unfold quoV
  split
  · split <;> simp
  · simp
def szW : List (List UInt8) → Nat
  | [] => 0
  | w :: r => w.length + 3 + szW r
theorem jnA_len : ∀ l : List (List UInt8), (jnA l).length ≤ szW l
  | [] => Nat.le_refl _
  | [w] => by have := quo_len w; simp only [jnA, szW]; omega
  | w :: x :: r => by
    have ih := jnA_len (x :: r)
    have := quo_len w
    simp only [jnA, szW, List.length_append, List.length_cons] at ih ⊢
    omega
theorem szW_app (a b : List (List UInt8)) : szW (a ++ b) = szW a + szW b := by
  induction a with
  | nil => simp [szW]
  | cons w r ih => simp only [List.cons_append, szW]; rw [ih]; omega
theorem jnR_err : ∀ {l o : List (List UInt8)}, szW (o ++ l) ≤ 512 → (jnR o l).2 = 0 ∨ (jnR o l).2 = 5
  | [], o, _ => .inl rfl
  | w :: r, o, h => by
    unfold jnR
    split
    · exact .inr rfl
    · rw [if_neg]
      · exact jnR_err (l := r) (by rw [List.append_assoc]; exact h)
      · have := jnA_len (o ++ [w])
        rw [szW_app] at this h
        simp only [szW] at this h
        omega
theorem joi_err {l : List (List UInt8)} (h : l.length ≤ 32) (hs : szW l ≤ 512) : (joiR l).2 = 0 ∨ (joiR l).2 = 5 := by
  unfold joiR
  rw [if_neg (by omega)]
  exact jnR_err (by simpa using hs)
end Go.Rx

