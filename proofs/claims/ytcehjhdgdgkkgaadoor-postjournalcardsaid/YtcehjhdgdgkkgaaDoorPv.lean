/- Entries with the other sign. -/
import Derived.Test.YtcehjhdgdgkkgaaDoorBk
namespace Go.Rx
open Go.Proofs
set_option linter.unusedSimpArgs false
set_option linter.unusedVariables false

def revE (l : List SV) : Nat → List Ent
  | 0 => []
  | i + 1 => revE l i ++ [(ac l i, negW (cl l i 1))]
def rev_an (l : List SV) : Nat → Option Ann
  | 0 => some ⟨Nat, fun i => ⟨[(3, .osl 20 0), (6, .sl enK l), (7, .int .i64 l.length), (8, .int .i64 i)], [(20, .row 0 31 enK (enL (revE l i)))]⟩, fun i => i ≤ l.length ∧ l.length ≤ 1000, fun i => l.length - i, [3, 6, 7, 8], [20], [(3, 20, 31, enK)], fun _ _ => none⟩
  | _ => none
def bk2 (l : List SV) : List SV := enL (revE l l.length)
def lrev_an (l : List SV) : Nat → Option Ann
  | 0 => some ⟨Nat, fun i => ⟨[(0, .sl enK l), (3, .sl enK (bk2 l)), (4, .sl enK (bk2 (bk2 l))), (28, .sl enK l), (29, .int .i64 l.length), (30, .int .i64 i)], []⟩, fun i => i ≤ l.length ∧ l.length ≤ 40 ∧ ∀ j, j < i → cl l j 1 ≠ -9223372036854775808, fun i => l.length - i, [0, 3, 4, 28, 29, 30], [], [], fun _ _ => none⟩
  | _ => none

def sh_prev : List SV → Option (List SV)
  | [l'] => (match slOf [.str, .int .i64] l' with | some l => some l | _ => none)
  | _ => none
def em_prev : List SV → List SV := fun l => [.sl [.str, .int .i64] l]
theorem sh_prev_le : ∀ us a, sh_prev us = some a → leL us (em_prev a) := by
  intro us a h
  unfold sh_prev at h
  split at h
  · split at h
    · cases h; exact (.cons (.sl (by assumption)) .nil)
    · cases h
  · cases h
def prevC : Con := conOf sh_prev (fun l => some (Ob (l.length ≤ 1000))) (fun l => .sl enK (bk2 l))
set_option maxRecDepth 100000 in
theorem vc_prev (l : List SV) : (wpF ⟨23, tyT, [], false, 0, [], false⟩ ((rev_an l)) [] Tryd.f16 (em_prev l) (.sl enK (bk2 l))) = (((∃ (x1 : Nat), ((l = l) ∧ (((↑l.length : Int) = (↑l.length : Int)) ∧ (((0 : Int) = (↑x1 : Int)) ∧ (([] = enL (revE l x1)) ∧ (((x1 ≤ l.length) ∧ (l.length ≤ (1000 : Nat))) ∧ ((True) ∧ (True)))))))) ∧ (∀ (x2 : Nat), (((x2 ≤ l.length) ∧ (l.length ≤ (1000 : Nat))) → (((decide ((↑x2 : Int) < (↑l.length : Int)) = true) → (Ob ((((0 : Int) ≤ (↑x2 : Int)) ∧ ((↑x2 : Int) < (↑l.length : Int)))) ∧ (Ob (((((enL (revE l x2)).length + (1 : Nat)) * (24 : Nat) ≤ (1099511627776 : Nat)) ∧ ((enL (revE l x2)).length + (1 : Nat) ≤ (1099511627776 : Nat)))) ∧ (∃ (x3 : Nat), ((l = l) ∧ (((↑l.length : Int) = (↑l.length : Int)) ∧ ((IntKind.i64.wrap ((↑x2 : Int) + (1 : Int)) = (↑x3 : Int)) ∧ ((enL (revE l x2) ++ [SV.agg [SV.str (elCell l x2 (0 : Nat)).toStr, SV.int IntKind.i64 (IntKind.i64.wrap ((0 : Int) - (elCell l x2 (1 : Nat)).toInt))]] = enL (revE l x3)) ∧ (((x3 ≤ l.length) ∧ (l.length ≤ (1000 : Nat))) ∧ ((l.length - x3 < l.length - x2) ∧ (True))))))))))) ∧ ((decide ((↑x2 : Int) < (↑l.length : Int)) = false) → ((enL (revE l x2) = bk2 l) ∧ (True)))))))) := by kernel_rfl
def sh_lrev : List SV → Option (List SV)
  | [l'] => (match slOf [.str, .int .i64] l' with | some l => some l | _ => none)
  | _ => none
def em_lrev : List SV → List SV := fun l => [.sl [.str, .int .i64] l]
theorem sh_lrev_le : ∀ us a, sh_lrev us = some a → leL us (em_lrev a) := by
  intro us a h
  unfold sh_lrev at h
  split at h
  · split at h
    · cases h; exact (.cons (.sl (by assumption)) .nil)
    · cases h
  · cases h
def lrevC : Con := conOf sh_lrev (fun l => some (Ob (wfL [.str, .int .i64] l))) (fun l => .bool true)
set_option maxRecDepth 100000 in
theorem vc_lrev (l : List SV) : (wpF ⟨65, tyT, [(9, pbooksC), (16, prevC), (11, pcheck_C)], false, 0, [], false⟩ ((lrev_an l)) [] Tryd.f4 (em_lrev l) (.bool true)) = (((((!true) = true) → ((true = false) ∧ (True))) ∧ (((!true) = false) → (((decide ((40 : Int) < (↑l.length : Int)) = true) → ((true = true) ∧ (True))) ∧ ((decide ((40 : Int) < (↑l.length : Int)) = false) → (Ob ((l.length ≤ (1000 : Nat))) ∧ (Ob (((bk2 l).length ≤ (1000 : Nat))) ∧ ((((!decide ((↑(bk2 l).length : Int) = (↑l.length : Int))) = true) → ((true = false) ∧ (True))) ∧ (((!decide ((↑(bk2 l).length : Int) = (↑l.length : Int))) = false) → ((((!decide ((↑(bk2 (bk2 l)).length : Int) = (↑l.length : Int))) = true) → ((true = false) ∧ (True))) ∧ (((!decide ((↑(bk2 (bk2 l)).length : Int) = (↑l.length : Int))) = false) → ((∃ (x1 : Nat), ((l = l) ∧ ((bk2 l = bk2 l) ∧ ((bk2 (bk2 l) = bk2 (bk2 l)) ∧ ((l = l) ∧ (((↑l.length : Int) = (↑l.length : Int)) ∧ (((0 : Int) = (↑x1 : Int)) ∧ (((x1 ≤ l.length) ∧ ((l.length ≤ (40 : Nat)) ∧ (∀ (j2 : Nat), ((j2 < x1) → (cl l j2 (1 : Nat) ≠ (-9223372036854775808 : Int)))))) ∧ ((True) ∧ (True)))))))))) ∧ (∀ (x3 : Nat), (((x3 ≤ l.length) ∧ ((l.length ≤ (40 : Nat)) ∧ (∀ (j4 : Nat), ((j4 < x3) → (cl l j4 (1 : Nat) ≠ (-9223372036854775808 : Int)))))) → (((decide ((↑x3 : Int) < (↑l.length : Int)) = true) → (Ob ((((0 : Int) ≤ (↑x3 : Int)) ∧ ((↑x3 : Int) < (↑l.length : Int)))) ∧ (((decide ((elCell l x3 (1 : Nat)).toInt = (-9223372036854775808 : Int)) = true) → ((true = true) ∧ (True))) ∧ ((decide ((elCell l x3 (1 : Nat)).toInt = (-9223372036854775808 : Int)) = false) → (Ob ((((0 : Int) ≤ (↑x3 : Int)) ∧ ((↑x3 : Int) < (↑(bk2 (bk2 l)).length : Int)))) ∧ ((((!(decide ((elCell (bk2 (bk2 l)) x3 (0 : Nat)).toStr = (elCell l x3 (0 : Nat)).toStr) && decide ((elCell (bk2 (bk2 l)) x3 (1 : Nat)).toInt = (elCell l x3 (1 : Nat)).toInt))) = true) → ((true = false) ∧ (True))) ∧ (((!(decide ((elCell (bk2 (bk2 l)) x3 (0 : Nat)).toStr = (elCell l x3 (0 : Nat)).toStr) && decide ((elCell (bk2 (bk2 l)) x3 (1 : Nat)).toInt = (elCell l x3 (1 : Nat)).toInt))) = false) → (Ob ((((0 : Int) ≤ (↑x3 : Int)) ∧ ((↑x3 : Int) < (↑(bk2 l).length : Int)))) ∧ ((((!(decide ((elCell (bk2 l) x3 (0 : Nat)).toStr = (elCell l x3 (0 : Nat)).toStr) && decide ((elCell (bk2 l) x3 (1 : Nat)).toInt = IntKind.i64.wrap ((0 : Int) - (elCell l x3 (1 : Nat)).toInt)))) = true) → ((true = false) ∧ (True))) ∧ (((!(decide ((elCell (bk2 l) x3 (0 : Nat)).toStr = (elCell l x3 (0 : Nat)).toStr) && decide ((elCell (bk2 l) x3 (1 : Nat)).toInt = IntKind.i64.wrap ((0 : Int) - (elCell l x3 (1 : Nat)).toInt)))) = false) → (∃ (x5 : Nat), ((l = l) ∧ ((bk2 l = bk2 l) ∧ ((bk2 (bk2 l) = bk2 (bk2 l)) ∧ ((l = l) ∧ (((↑l.length : Int) = (↑l.length : Int)) ∧ ((IntKind.i64.wrap ((↑x3 : Int) + (1 : Int)) = (↑x5 : Int)) ∧ (((x5 ≤ l.length) ∧ ((l.length ≤ (40 : Nat)) ∧ (∀ (j6 : Nat), ((j6 < x5) → (cl l j6 (1 : Nat) ≠ (-9223372036854775808 : Int)))))) ∧ ((l.length - x5 < l.length - x3) ∧ (True)))))))))))))))))))) ∧ ((decide ((↑x3 : Int) < (↑l.length : Int)) = false) → (Ob ((l.length ≤ (1000 : Nat))) ∧ (Ob (((bk2 l).length ≤ (1000 : Nat))) ∧ (((decide (ckE l = (0 : Int)) == decide (ckE (bk2 l) = (0 : Int))) = true) ∧ (True)))))))))))))))))))) := by kernel_rfl
theorem revE_len (l : List SV) : ∀ n, (revE l n).length = n
  | 0 => rfl
  | n + 1 => by simp only [revE, List.length_append, revE_len l n]; rfl
theorem revE_get (l : List SV) : ∀ (n i : Nat), i < n → (revE l n).getD i ([], 0) = (ac l i, negW (cl l i 1))
  | n + 1, i, h => by
    simp only [revE, List.getD_eq_getElem?_getD, List.getElem?_append, revE_len]
    by_cases hi : i < n
    · rw [if_pos hi, ← List.getD_eq_getElem?_getD]; exact revE_get l n i hi
    · have : i = n := by omega
      subst this
      rw [if_neg hi]; simp
theorem bk2_len (l : List SV) : (bk2 l).length = l.length := by unfold bk2; rw [enL_len, revE_len]
theorem bk2_ac {l : List SV} {i : Nat} (h : i < l.length) : ac (bk2 l) i = ac l i := by
  unfold bk2; rw [enL_ac (by rw [revE_len]; exact h), revE_get l _ i h]
theorem bk2_cl {l : List SV} {i : Nat} (h : i < l.length) : cl (bk2 l) i 1 = negW (cl l i 1) := by
  unfold bk2; rw [enL_cl (by rw [revE_len]; exact h), revE_get l _ i h]
theorem neg_in {x : Int} (h : in64 x) (hx : x ≠ -9223372036854775808) : negW x = -x := by
  unfold in64 at h
  unfold negW; rw [wrapI (by omega)]; omega
theorem wfL_get {ks : List CK} {l : List SV} (h : wfL ks l) {i : Nat} (hi : i < l.length) : ∃ us, wfKs ks us ∧ l.getD i .any = elOf us := by
  obtain ⟨L0, rfl, _, h2⟩ := h
  rw [List.length_map] at hi
  refine ⟨L0.getD i [], h2 _ ?_, getD_map elOf L0 i [] .any hi⟩
  rw [List.getD_eq_getElem?_getD, List.getElem?_eq_getElem hi]
  exact List.getElem_mem hi
theorem ent_wf {l : List SV} (h : wfL [.str, .int .i64] l) {i : Nat} (hi : i < l.length) : in64 (cl l i 1) ∧ (ac l i).length ≤ maxStr := by
  obtain ⟨us, q1, q2⟩ := wfL_get h hi
  obtain ⟨v, vs, rfl, q3, q4⟩ := wfKs_cons q1
  obtain ⟨v', vs', rfl, q5, q6⟩ := wfKs_cons q4
  obtain ⟨a, rfl, ha⟩ := wfK_str q3
  obtain ⟨b, rfl, hb⟩ := wfK_int q5
  rw [wfKs_nil q6] at q2
  unfold cl ac elCell
  rw [q2]; exact ⟨hb, ha⟩
theorem ck_neg {l l' : List SV} (hl : l'.length = l.length) (ha : ∀ i, i < l.length → ac l' i = ac l i ∧ cl l' i 1 = -cl l i 1) : (ckE l = 0 → ckE l' = 0) := by
  intro h
  obtain ⟨h1, h2⟩ := ckE_all h
  have hF : ∀ i, i ≤ l.length → ckF l' i = 0 ∧ colS l' 1 i = -colS l 1 i := by
    intro i
    induction i with
    | zero => intro _; exact ⟨rfl, rfl⟩
    | succ i ih =>
      intro hi
      obtain ⟨e1, e2⟩ := ih (by omega)
      obtain ⟨a1, a2⟩ := ha i (by omega)
      obtain ⟨r1, r2⟩ := h1 i (by omega)
      refine ⟨ckF_next e1 ?_ ?_, ?_⟩
      · rw [a2]
        have := rightB_iff.1 r1
        exact rightB_iff.2 (by omega)
      · rw [a1]; exact r2
      · simp only [colS]; rw [e2, a2]; omega
  obtain ⟨f1, f2⟩ := hF l.length (Nat.le_refl _)
  unfold ckE
  rw [hl, if_neg (by omega), if_neg (by omega)]
theorem prev_known : Known Tryd.prog 16 prevC := by
  refine known1 (nt := 23) (An := fun l => (rev_an l)) (labs := []) (lit := false) (em := em_prev) sh_prev_le (by kernel_rfl) mixedT tyT_ok .nil Tryd.func16 (by kernel_rfl) (fun a => by kernel_rfl) (fun a => by rfl) (fun l ha => ?_)
  replace ha : l.length ≤ 1000 := ha.out
  refine ⟨_, vc_prev l, ?_⟩
  simp only [Int.reduceLE, Int.reduceLT, Int.reduceEq, Int.reduceNe, Nat.reduceLeDiff, Nat.reduceEqDiff, beq_eq_false_iff_ne, beq_iff_eq, decide_eq_decide, ne_eq, eq_self, true_and, and_true, and_self, and_false, false_and, Bool.not_true, Bool.not_false, Bool.false_eq_true, Bool.true_eq_false, false_implies, true_implies, implies_true, imp_false, not_true, not_false_eq_true, decide_eq_true_eq, decide_eq_false_iff_not, Bool.not_eq_true', Bool.not_eq_false', Bool.and_eq_true, Classical.not_not, decide_true, decide_false, Bool.and_true, Bool.true_and, if_true, if_false, Ob_iff]
  refine ⟨⟨0, rfl, rfl, by omega, ha⟩, fun i hi => ⟨fun hlt => ⟨by omega, by rw [enL_len, revE_len]; omega, i + 1, by rw [wrapI (by omega)]; rfl, ?_, ⟨by omega, ha⟩, by omega⟩, fun hge => ?_⟩⟩
  · show enL (revE l i) ++ enL [(ac l i, negW (cl l i 1))] = _
    rw [← enL_app]; rfl
  · rw [show i = l.length by omega]; rfl

theorem lrev_known : Known Tryd.prog 4 lrevC := by
  refine known1 (nt := 65) (An := fun l => (lrev_an l)) (labs := []) (lit := false) (em := em_lrev) sh_lrev_le (by kernel_rfl) mixedT tyT_ok (.cons pbooks_known (.cons prev_known (.cons pcheck__known .nil))) Tryd.func4 (by kernel_rfl) (fun a => by kernel_rfl) (fun a => by rfl) (fun l ha => ?_)
  replace ha : wfL [.str, .int .i64] l := ha.out
  refine ⟨_, vc_lrev l, ?_⟩
  simp only [Int.reduceLE, Int.reduceLT, Int.reduceEq, Int.reduceNe, Nat.reduceLeDiff, Nat.reduceEqDiff, beq_eq_false_iff_ne, beq_iff_eq, decide_eq_decide, ne_eq, eq_self, true_and, and_true, and_self, and_false, false_and, Bool.not_true, Bool.not_false, Bool.false_eq_true, Bool.true_eq_false, false_implies, true_implies, implies_true, imp_false, not_true, not_false_eq_true, decide_eq_true_eq, decide_eq_false_iff_not, Bool.not_eq_true', Bool.not_eq_false', Bool.and_eq_true, Classical.not_not, decide_true, decide_false, Bool.and_true, Bool.true_and, if_true, if_false, Ob_iff]
  rw [bk2_len, bk2_len, bk2_len]
  intro h40
  refine ⟨by omega, by omega, rfl, fun _ => ⟨rfl, fun _ => ⟨⟨0, rfl, by omega, by omega, fun j hj => by omega⟩, fun i hi => ?_⟩⟩⟩
  obtain ⟨i1, i2, i3⟩ := hi
  refine ⟨fun hlt => ?_, fun hge => ?_⟩
  · have hi : i < l.length := by omega
    have w := (ent_wf ha hi).1
    refine ⟨by omega, fun hne => ?_⟩
    have hne : cl l i 1 ≠ -9223372036854775808 := hne
    have e1 : (elCell (bk2 l) i 0).toStr = (elCell l i 0).toStr := bk2_ac hi
    have e2 : (elCell (bk2 l) i 1).toInt = IntKind.i64.wrap (0 - (elCell l i 1).toInt) := bk2_cl hi
    have e3 : (elCell (bk2 (bk2 l)) i 0).toStr = (elCell l i 0).toStr := (bk2_ac (l := bk2 l) (by rw [bk2_len]; exact hi)).trans (bk2_ac hi)
    have e4 : (elCell (bk2 (bk2 l)) i 1).toInt = (elCell l i 1).toInt := by
      refine (bk2_cl (l := bk2 l) (by rw [bk2_len]; exact hi)).trans ?_
      rw [bk2_cl hi, neg_in w hne]
      show negW (-(cl l i 1)) = cl l i 1
      rw [neg_in (by unfold in64 at w ⊢; omega) (by unfold in64 at w; omega)]; omega
    rw [e1, e2, e3, e4]
    simp only [decide_true, Bool.and_self, Bool.true_eq_false, not_false_eq_true, true_and, and_self, true_implies]
    refine ⟨by omega, by omega, i + 1, by rw [wrapI (by omega)]; rfl, ⟨by omega, i2, fun j hj => ?_⟩, by omega⟩
    by_cases hji : j < i
    · exact i3 j hji
    · rw [show j = i by omega]; exact hne
  · have e : i = l.length := by omega
    subst e
    have hin : ∀ j, j < l.length → cl l j 1 ≠ -9223372036854775808 ∧ in64 (cl l j 1) := fun j hj => ⟨i3 j hj, (ent_wf ha hj).1⟩
    refine ⟨by omega, by omega, ck_neg (bk2_len l) (fun j hj => ⟨bk2_ac hj, by rw [bk2_cl hj, neg_in (hin j hj).2 (hin j hj).1]⟩), ck_neg (bk2_len l).symm (fun j hj => ?_)⟩
    rw [bk2_len] at hj
    exact ⟨(bk2_ac hj).symm, by rw [bk2_cl hj, neg_in (hin j hj).2 (hin j hj).1]; omega⟩
end Go.Rx

