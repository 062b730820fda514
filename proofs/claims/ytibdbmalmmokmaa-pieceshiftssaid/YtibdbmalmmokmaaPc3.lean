/- Functions of straight pieces: the lesser of two pieces; sums; the lesser and the greater function. -/
import Derived.Test.YtibdbmalmmokmaaPc2
namespace Go.Rx
open Go.Proofs
set_option linter.unusedSimpArgs false
set_option linter.unusedVariables false

theorem cmpZ_mem {x : Int} : ∀ l, x ∈ cmpZ l ↔ x ∈ l
  | [] => by simp [cmpZ]
  | [a] => by simp [cmpZ]
  | a :: b :: r => by
    have ih := cmpZ_mem (x := x) (b :: r)
    unfold cmpZ
    split
    · rename_i h; subst h
      rw [ih]; simp
    · rw [List.mem_cons, ih, List.mem_cons (a := x) (b := a)]
theorem cmpZ_sorted : ∀ l : List Int, l.Pairwise (· ≤ ·) → (cmpZ l).Pairwise (· < ·)
  | [], _ => by simp [cmpZ]
  | [a], _ => by simp [cmpZ]
  | a :: b :: r, h => by
    rw [List.pairwise_cons] at h
    have ih := cmpZ_sorted (b :: r) h.2
    unfold cmpZ
    split
    · exact ih
    · rename_i hab
      refine List.pairwise_cons.2 ⟨fun x hx => ?_, ih⟩
      rw [cmpZ_mem] at hx
      have h1 := h.1 b (List.mem_cons_self ..)
      rcases List.mem_cons.1 hx with rfl | hx2
      · omega
      · have := (List.pairwise_cons.1 h.2).1 x hx2
        omega
theorem from_mem {F G : List Ln} {x : Int} : x ∈ fromsT F G ↔ ∃ a, (a ∈ F ∨ a ∈ G) ∧ a.1 = x := by
  unfold fromsT
  rw [cmpZ_mem, (sortZ_perm _).mem_iff, List.mem_map]
  simp only [List.mem_append]
theorem froms_sorted (F G : List Ln) : (fromsT F G).Pairwise (· < ·) := cmpZ_sorted _ (sortZ_sorted _)
theorem froms_len (F G : List Ln) : (fromsT F G).length ≤ F.length + G.length := by
  have := cmpZ_len (sortZ ((F ++ G).map (·.1)))
  rw [sortZ_len] at this
  simpa [fromsT] using this
theorem iA_mem {X : List Int} {i : Nat} (h : i < X.length) : iA X i ∈ X := by
  simp only [iA, List.getD_eq_getElem?_getD, List.getElem?_eq_getElem h, Option.getD_some]
  exact List.getElem_mem h
theorem mem_iA {X : List Int} {x : Int} (h : x ∈ X) : ∃ i, i < X.length ∧ iA X i = x := by
  obtain ⟨i, hi, e⟩ := List.getElem_of_mem h
  exact ⟨i, hi, by simp [iA, List.getD_eq_getElem?_getD, List.getElem?_eq_getElem hi, e]⟩
theorem iA_lt {X : List Int} (h : X.Pairwise (· < ·)) {i j : Nat} (hij : i < j) (hj : j < X.length) : iA X i < iA X j := by
  have := List.pairwise_iff_getElem.1 h i j (by omega) hj hij
  simpa [iA, List.getD_eq_getElem?_getD, List.getElem?_eq_getElem hj, List.getElem?_eq_getElem (show i < X.length by omega)] using this
theorem std_mem {L : List Ln} (h : stdT L) {a : Ln} (ha : a ∈ L) : (0 ≤ a.1 ∧ a.1 ≤ 10000000000) ∧ (-40000 ≤ a.2.2 ∧ a.2.2 ≤ 40000) ∧ (-4000000000000000 ≤ a.2.1 ∧ a.2.1 ≤ 4000000000000000) := by
  obtain ⟨i, hi, rfl⟩ := mem_lnA ha
  have := h.2.2 i hi
  exact ⟨this.1, this.2.2.2.1, this.2.2.2.2.1⟩
theorem froms_in {F G : List Ln} (hF : stdT F) (hG : stdT G) {x : Int} (h : x ∈ fromsT F G) : 0 ≤ x ∧ x ≤ 10000000000 := by
  obtain ⟨a, ha, rfl⟩ := from_mem.1 h
  rcases ha with ha | ha
  · exact (std_mem hF ha).1
  · exact (std_mem hG ha).1
theorem froms_0 {F G : List Ln} (hF : stdT F) (hG : stdT G) : 1 ≤ (fromsT F G).length ∧ iA (fromsT F G) 0 = 0 := by
  have h0 : (0 : Int) ∈ fromsT F G := from_mem.2 ⟨lnA F 0, .inl (lnA_mem hF.1), (hF.2.2 0 hF.1).2.1 rfl⟩
  obtain ⟨i, hi, e⟩ := mem_iA h0
  refine ⟨by omega, ?_⟩
  rcases Nat.eq_zero_or_pos i with h1 | h1
  · rw [h1] at e; exact e
  · have a := iA_lt (froms_sorted F G) h1 hi
    have b := (froms_in hF hG (iA_mem (i := 0) (by omega))).1
    omega
/-- Between two numbers a straight piece is between its values there. -/
theorem at_between {a : Ln} {x y z lo hi : Int} (h1 : x ≤ y) (h2 : y ≤ z) (hx : lo ≤ atT a x ∧ atT a x ≤ hi) (hz : lo ≤ atT a z ∧ atT a z ≤ hi) : lo ≤ atT a y ∧ atT a y ≤ hi := by
  unfold atT at *
  have e1 : (y - a.1) * a.2.2 = (x - a.1) * a.2.2 + (y - x) * a.2.2 := by rw [← Int.add_mul]; congr 1; omega
  have e2 : (z - a.1) * a.2.2 = (y - a.1) * a.2.2 + (z - y) * a.2.2 := by rw [← Int.add_mul]; congr 1; omega
  rcases Int.le_total 0 a.2.2 with h | h
  · have p1 := Int.mul_nonneg (show 0 ≤ y - x by omega) h
    have p2 := Int.mul_nonneg (show 0 ≤ z - y by omega) h
    omega
  · have p1 := Int.mul_nonneg (show 0 ≤ y - x by omega) (show 0 ≤ -a.2.2 by omega)
    have p2 := Int.mul_nonneg (show 0 ≤ z - y by omega) (show 0 ≤ -a.2.2 by omega)
    rw [Int.mul_neg] at p1 p2
    omega
theorem at_from (a : Ln) : atT a a.1 = a.2.1 := by unfold atT; rw [Int.sub_self, Int.zero_mul, Int.add_zero]
theorem vAt_in {L : List Ln} (h : stdT L) {x : Int} (h0 : 0 ≤ x) (h1 : x ≤ 10000000000) : -4000000000000000 ≤ vAt L x ∧ vAt L x ≤ 4000000000000000 := by
  obtain ⟨f1, f2, f3⟩ := std_fnd h h0
  obtain ⟨p1, p2, p3, p4, p5, p6⟩ := h.2.2 _ f1
  refine at_between (x := (lnA L (fndT L x)).1) (z := endT L (fndT L x)) f2 ?_ (by rw [at_from]; exact p5) p6
  unfold endT
  split
  · rename_i h2; have := f3 h2; omega
  · exact h1
theorem at_in2 {a : Ln} {x : Int} (h : (0 ≤ a.1 ∧ a.1 ≤ 10000000000) ∧ (-40000 ≤ a.2.2 ∧ a.2.2 ≤ 40000) ∧ (-4000000000000000 ≤ a.2.1 ∧ a.2.1 ≤ 4000000000000000)) (h1 : 0 ≤ x) (h2 : x ≤ 10000000000) : -4400000000000000 ≤ atT a x ∧ atT a x ≤ 4400000000000000 := by
  obtain ⟨a1, a2, a3⟩ := h
  have := mul_in (a := x - a.1) (b := a.2.2) (A := 10000000000) (B := 40000) (by omega) (by omega) (by omega) (by omega)
  unfold atT
  omega
theorem tdiv_in {a b A : Int} (h1 : -A ≤ a) (h2 : a ≤ A) : -A ≤ a.tdiv b ∧ a.tdiv b ≤ A := by
  have e : (a.tdiv b).natAbs = a.natAbs / b.natAbs := Int.natAbs_tdiv a b
  have := Nat.div_le_self a.natAbs b.natAbs
  omega

theorem lesser_known : Known Try.prog 32 lesserC := by
  refine known1 (nt := 82) (An := fun (f, v, r, f', v', r', x, e) => noAnn) (labs := []) (lit := false) (em := em_lesser) sh_lesser_le (by kernel_rfl) mixedT tyT_ok (.cons lat_known .nil) Try.func32 (by kernel_rfl) (fun a => by obtain ⟨f, v, r, f', v', r', x, e⟩ := a; kernel_rfl) (fun a => by obtain ⟨f, v, r, f', v', r', x, e⟩ := a; rfl) (fun a ha => ?_)
  obtain ⟨f, v, r, f', v', r', x, e⟩ := a
  replace ha : okL (f, v, r) ∧ okL (f', v', r') ∧ (0 ≤ x ∧ x ≤ 10000000000) ∧ (0 ≤ e ∧ e ≤ 10000000000) := ha.out
  refine ⟨_, vc_lesser f v r f' v' r' x e, ?_⟩
  obtain ⟨h1, h2, h3, h4⟩ := ha
  have b1 := at_in (x := x) h1 (by omega) (by omega)
  have b2 := at_in (x := x) h2 (by omega) (by omega)
  obtain ⟨_, _, r1, r2⟩ := h1
  obtain ⟨_, _, r3, r4⟩ := h2
  have r1 : -80000 ≤ r := r1
  have r2 : r ≤ 80000 := r2
  have r3 : -80000 ≤ r' := r3
  have r4 : r' ≤ 80000 := r4
  obtain ⟨p, hp⟩ : ∃ p, atT (f, v, r) x = p := ⟨_, rfl⟩
  obtain ⟨q, hq⟩ : ∃ q, atT (f', v', r') x = q := ⟨_, rfl⟩
  rw [hp] at b1
  rw [hq] at b2
  have d1 := tdiv_in (a := p - q) (b := r' - r) (A := 30000000000000000) (by omega) (by omega)
  have d2 := tdiv_in (a := q - p) (b := r - r') (A := 30000000000000000) (by omega) (by omega)
  have e1 : lesT (f, v, r) (f', v', r') x e = if q < p ∨ (q = p ∧ r' < r) then lesS (f', v', r') (f, v, r) q p x e else lesS (f, v, r) (f', v', r') p q x e := by
    unfold lesT; rw [hp, hq]
  simp only [hp, hq, e1, wrapI (n := r' - r) (by omega), wrapI (n := r - r') (by omega), wrapI (n := p - q) (by omega), wrapI (n := q - p) (by omega), wrapI (n := (p - q).tdiv (r' - r)) (by omega), wrapI (n := (q - p).tdiv (r - r')) (by omega),
    wrapI (n := x + (p - q).tdiv (r' - r)) (by omega), wrapI (n := x + (q - p).tdiv (r - r')) (by omega), wrapI (n := x + (p - q).tdiv (r' - r) + 1) (by omega), wrapI (n := x + (q - p).tdiv (r - r') + 1) (by omega)]
  have sw : (q < p ∨ (q = p ∧ r' < r)) → lnSV (if q < p ∨ (q = p ∧ r' < r) then lesS (f', v', r') (f, v, r) q p x e else lesS (f, v, r) (f', v', r') p q x e) = lnSV (lesS (f', v', r') (f, v, r) q p x e) := fun h => by rw [if_pos h]
  have ns : ¬ (q < p ∨ (q = p ∧ r' < r)) → lnSV (if q < p ∨ (q = p ∧ r' < r) then lesS (f', v', r') (f, v, r) q p x e else lesS (f, v, r) (f', v', r') p q x e) = lnSV (lesS (f, v, r) (f', v', r') p q x e) := fun h => by rw [if_neg h]
  have c1 : ∀ (a1 a2 a3 b1 b2 b3 p q : Int), (a3 - b3 ≤ 0 ∨ e ≤ x + (q - p).tdiv (a3 - b3)) → lnSV (lesS (a1, a2, a3) (b1, b2, b3) p q x e) = [SV.agg [.int .i64 x, .int .i64 p, .int .i64 a3]] := fun a1 a2 a3 b1 b2 b3 p q h => by
    unfold lesS; rw [if_pos (by unfold crossB; simpa using h)]; rfl
  have c2 : ∀ (a1 a2 a3 b1 b2 b3 p q : Int), ¬ (a3 - b3 ≤ 0 ∨ e ≤ x + (q - p).tdiv (a3 - b3)) → lnSV (lesS (a1, a2, a3) (b1, b2, b3) p q x e) = [SV.agg [.int .i64 x, .int .i64 p, .int .i64 a3], SV.agg [.int .i64 (x + (q - p).tdiv (a3 - b3) + 1), .int .i64 (atT (b1, b2, b3) (x + (q - p).tdiv (a3 - b3) + 1)), .int .i64 b3]] := fun a1 a2 a3 b1 b2 b3 p q h => by
    unfold lesS; rw [if_neg (by unfold crossB; simpa using h)]; rfl
  have n1 : q ≤ p → 0 < r' - r → 0 ≤ (p - q).tdiv (r' - r) := fun h h' => Int.tdiv_nonneg (by omega) (by omega)
  have n2 : p ≤ q → 0 < r - r' → 0 ≤ (q - p).tdiv (r - r') := fun h h' => Int.tdiv_nonneg (by omega) (by omega)
  simp only [Int.reduceLE, Int.reduceLT, Int.reduceEq, Int.reduceNe, Nat.reduceLeDiff, Nat.reduceEqDiff, beq_eq_false_iff_ne, beq_iff_eq, decide_eq_decide, ne_eq, eq_self, true_and, and_true, and_self, and_false, false_and, Bool.not_true, Bool.not_false, Bool.false_eq_true, Bool.true_eq_false, false_implies, true_implies, implies_true, imp_false, not_true, not_false_eq_true, decide_eq_true_eq, decide_eq_false_iff_not, Bool.not_eq_true', Bool.not_eq_false', Bool.and_eq_true, Classical.not_not, decide_true, decide_false, Bool.and_true, Bool.true_and, if_true, if_false, Ob_iff]
  repeat' first | exact trivial | with_reducible rfl | apply And.intro | apply Ob.mk | intro _
  all_goals first
    | assumption
    | omega
    | (rw [sw (by omega), c1 _ _ _ _ _ _ _ _ (.inl (by assumption))])
    | (rw [sw (by omega), c1 _ _ _ _ _ _ _ _ (.inr (by assumption))])
    | (rw [sw (by omega), c2 _ _ _ _ _ _ _ _ (by omega)])
    | (rw [ns (by omega), c1 _ _ _ _ _ _ _ _ (.inl (by assumption))])
    | (rw [ns (by omega), c1 _ _ _ _ _ _ _ _ (.inr (by assumption))])
    | (rw [ns (by omega), c2 _ _ _ _ _ _ _ _ (by omega)])

/-- What a number of froms tells. -/
theorem from_at {F G : List Ln} (hF : stdT F) (hG : stdT G) {i : Nat} (hi : i < (fromsT F G).length) :
    (0 ≤ iA (fromsT F G) i ∧ iA (fromsT F G) i ≤ 10000000000) ∧ fndT F (iA (fromsT F G) i) < F.length ∧ fndT G (iA (fromsT F G) i) < G.length := by
  have h := froms_in hF hG (iA_mem hi)
  exact ⟨h, (std_fnd hF h.1).1, (std_fnd hG h.1).1⟩
theorem addT_len (L M : List Ln) (t : Int) : (addT L M t).length = (fromsT L M).length := by simp [addT]
theorem addT_at {L M : List Ln} {t : Int} {i : Nat} (h : i < (fromsT L M).length) : lnA (addT L M t) i = addP L M t (iA (fromsT L M) i) := by
  unfold lnA addT iA
  exact getD_map (addP L M t) (fromsT L M) i 0 _ h
theorem t_mul {t x : Int} (h1 : -1 ≤ t) (h2 : t ≤ 1) : t * x = -x ∨ t * x = 0 ∨ t * x = x := by
  rcases (show t = -1 ∨ t = 0 ∨ t = 1 by omega) with rfl | rfl | rfl
  · left; omega
  · right; left; omega
  · right; right; omega
theorem addP_ok {L M : List Ln} (hL : stdT L) (hM : stdT M) {t x : Int} (h1 : -1 ≤ t) (h2 : t ≤ 1) (h3 : 0 ≤ x) (h4 : x ≤ 10000000000) : okL (addP L M t x) ∧
    (-4000000000000000 ≤ vAt L x ∧ vAt L x ≤ 4000000000000000) ∧ (-4000000000000000 ≤ t * vAt M x ∧ t * vAt M x ≤ 4000000000000000) ∧
    (-40000 ≤ (lnA L (fndT L x)).2.2 ∧ (lnA L (fndT L x)).2.2 ≤ 40000) ∧ (-40000 ≤ t * (lnA M (fndT M x)).2.2 ∧ t * (lnA M (fndT M x)).2.2 ≤ 40000) := by
  have a := vAt_in hL h3 h4
  have b := vAt_in hM h3 h4
  have c := (hL.2.2 _ (std_fnd hL h3).1).2.2.2.1
  have d := (hM.2.2 _ (std_fnd hM h3).1).2.2.2.1
  have m1 := t_mul (x := vAt M x) h1 h2
  have m2 := t_mul (x := (lnA M (fndT M x)).2.2) h1 h2
  refine ⟨⟨⟨h3, h4⟩, ?_, ?_⟩, a, by omega, c, by omega⟩
  · show _ ≤ vAt L x + t * vAt M x ∧ vAt L x + t * vAt M x ≤ _; omega
  · show _ ≤ (lnA L (fndT L x)).2.2 + t * (lnA M (fndT M x)).2.2 ∧ (lnA L (fndT L x)).2.2 + t * (lnA M (fndT M x)).2.2 ≤ _; omega
theorem addT_good {L M : List Ln} (hL : stdT L) (hM : stdT M) {t : Int} (h1 : -1 ≤ t) (h2 : t ≤ 1) : goodL (addT L M t) := by
  intro a ha
  obtain ⟨x, hx, rfl⟩ := List.mem_map.1 ha
  have := froms_in hL hM hx
  exact (addP_ok hL hM h1 h2 this.1 this.2).1

theorem padd_known : Known Try.prog 14 paddC := by
  refine known1 (nt := 72) (An := fun (l, m, t) => (add_an l m t)) (labs := []) (lit := false) (em := em_padd) sh_padd_le (by kernel_rfl) mixedT tyT_ok (.cons pboth_known (.cons froms_known (.cons pfind_known (.cons lat_known (.cons pdone_known .nil))))) Try.func14 (by kernel_rfl) (fun a => by obtain ⟨l, m, t⟩ := a; kernel_rfl) (fun a => by obtain ⟨l, m, t⟩ := a; rfl) (fun a ha => ?_)
  obtain ⟨l, m, t⟩ := a
  refine ⟨_, vc_padd l m t, ?_⟩
  simp only [iA_cell, iSV_len]
  simp only [cell0, cell1, cell2, eta3, tri_lnSV, lnSV_len]
  simp only [Int.reduceLE, Int.reduceLT, Int.reduceEq, Int.reduceNe, Nat.reduceLeDiff, Nat.reduceEqDiff, beq_eq_false_iff_ne, beq_iff_eq, decide_eq_decide, ne_eq, eq_self, true_and, and_true, and_self, and_false, false_and, Bool.not_true, Bool.not_false, Bool.false_eq_true, Bool.true_eq_false, false_implies, true_implies, implies_true, imp_false, not_true, not_false_eq_true, decide_eq_true_eq, decide_eq_false_iff_not, Bool.not_eq_true', Bool.not_eq_false', Bool.and_eq_true, Classical.not_not, decide_true, decide_false, Bool.and_true, Bool.true_and, if_true, if_false, Ob_iff]
  have hl := tri_len l
  have hm := tri_len m
  have hfl := froms_len (tri l) (tri m)
  have hal := addT_len (tri l) (tri m) t
  refine ⟨fun h => ?_, fun h => ⟨fun h1 => ?_, fun h1 => ⟨fun h2 => ?_, fun h2 => ?_⟩⟩⟩
  · have e : addE (tri l) (tri m) t = bothE (tri l) (tri m) := by unfold addE; rw [if_neg h]
    unfold addV; rw [e, if_neg h]; exact ⟨rfl, rfl⟩
  · have e : addE (tri l) (tri m) t = 1 := by unfold addE; rw [if_pos h, if_pos (.inl h1)]
    unfold addV; rw [e, if_neg (by decide)]; exact ⟨rfl, rfl⟩
  · have e : addE (tri l) (tri m) t = 1 := by unfold addE; rw [if_pos h, if_pos (.inr h2)]
    unfold addV; rw [e, if_neg (by decide)]; exact ⟨rfl, rfl⟩
  · have hc : chkT (tri l) = 0 ∧ chkT (tri m) = 0 := by
      unfold bothE at h
      split at h
      · exact ⟨by assumption, h⟩
      · exact absurd h (by assumption)
    have sl := chk_ok.1 hc.1
    have sm := chk_ok.1 hc.2
    have ee : addE (tri l) (tri m) t = doneE (addT (tri l) (tri m) t) := by unfold addE; rw [if_pos h, if_neg (by omega)]
    have ev : addV (tri l) (tri m) t = doneV (addT (tri l) (tri m) t) := by unfold addV doneV; rw [ee]
    have hb1 := sl.2.1; have hb2 := sm.2.1
    refine ⟨hc, ⟨0, rfl, rfl, by omega, hc.1, hc.2, by omega, by omega⟩, fun i ⟨i1, i2, i3, i4⟩ => ⟨fun h3 => ?_, fun h3 => ?_⟩⟩
    · have hi : i < (fromsT (tri l) (tri m)).length := by omega
      obtain ⟨f1, f2, f3⟩ := from_at sl sm hi
      have hp := addP_ok sl sm (t := t) (by omega) (by omega) f1.1 f1.2
      obtain ⟨_, q1, q2, q3, q4⟩ := hp
      refine ⟨by omega, hc.1, by omega, hc.2, by omega, ⟨std_ok sl f2, by omega, by omega⟩, ⟨std_ok sm f3, by omega, by omega⟩, by rw [List.length_take]; omega, ⟨i + 1, by rw [wrapI (by omega)]; omega, ?_, ⟨by omega, hc.1, hc.2, by omega, by omega⟩, by omega⟩⟩
      have e1 : atT (lnA (tri l) (fndT (tri l) (iA (fromsT (tri l) (tri m)) i))) (iA (fromsT (tri l) (tri m)) i) = vAt (tri l) (iA (fromsT (tri l) (tri m)) i) := rfl
      have e2 : atT (lnA (tri m) (fndT (tri m) (iA (fromsT (tri l) (tri m)) i))) (iA (fromsT (tri l) (tri m)) i) = vAt (tri m) (iA (fromsT (tri l) (tri m)) i) := rfl
      rw [take_lnA (by omega), addT_at hi, lnSV_snoc, e1, e2]
      rw [wrapI (n := t * vAt (tri m) (iA (fromsT (tri l) (tri m)) i)) (by omega), wrapI (n := vAt (tri l) (iA (fromsT (tri l) (tri m)) i) + t * vAt (tri m) (iA (fromsT (tri l) (tri m)) i)) (by omega)]
      rw [wrapI (n := t * (lnA (tri m) (fndT (tri m) (iA (fromsT (tri l) (tri m)) i))).2.2) (by omega), wrapI (by omega)]
      rfl
    · rw [List.take_of_length_le (by omega)]
      refine ⟨⟨by omega, addT_good sl sm (by omega) (by omega)⟩, ?_, ?_⟩
      · rw [ev]
      · rw [ee]

theorem les_len (a b : Ln) (x e : Int) : (lesT a b x e).length ≤ 2 := by
  unfold lesT lesS
  split <;> split <;> simp
/-- A piece of a function that stands, told without the function. -/
def okS (a : Ln) : Prop := (0 ≤ a.1 ∧ a.1 ≤ 10000000000) ∧ (-40000 ≤ a.2.2 ∧ a.2.2 ≤ 40000) ∧ (-4000000000000000 ≤ a.2.1 ∧ a.2.1 ≤ 4000000000000000)
theorem okS_ok {a : Ln} (h : okS a) : okL a := by unfold okS at h; unfold okL; omega
theorem std_okS {L : List Ln} (h : stdT L) {i : Nat} (hi : i < L.length) : okS (lnA L i) := std_mem h (lnA_mem hi)
theorem lesS_good {a b : Ln} (ha : okS a) (hb : okS b) {p q x e : Int} (hx : 0 ≤ x ∧ x ≤ 10000000000) (he : e ≤ 10000000000) (hp : -4400000000000000 ≤ p ∧ p ≤ 4400000000000000) (hpq : p ≤ q) : goodL (lesS a b p q x e) := by
  unfold lesS crossB
  obtain ⟨a1, a2, a3⟩ := ha
  have h1 : okL (x, p, a.2.2) := ⟨hx, by show _ ≤ p ∧ p ≤ _; omega, by show _ ≤ a.2.2 ∧ a.2.2 ≤ _; omega⟩
  split
  · intro c hc
    rw [List.mem_singleton] at hc
    subst hc; exact h1
  · rename_i hc
    simp only [Bool.or_eq_true, decide_eq_true_eq, not_or] at hc
    have hd : 0 ≤ (q - p).tdiv (a.2.2 - b.2.2) := Int.tdiv_nonneg (by omega) (by omega)
    have hv := at_in2 hb (x := x + (q - p).tdiv (a.2.2 - b.2.2) + 1) (by omega) (by omega)
    obtain ⟨b1, b2, b3⟩ := hb
    intro c hc2
    rw [List.mem_cons, List.mem_singleton] at hc2
    rcases hc2 with rfl | rfl
    · exact h1
    · exact ⟨by show _ ≤ x + (q - p).tdiv (a.2.2 - b.2.2) + 1 ∧ x + (q - p).tdiv (a.2.2 - b.2.2) + 1 ≤ _; omega, by show _ ≤ atT b _ ∧ atT b _ ≤ _; omega, by show _ ≤ b.2.2 ∧ b.2.2 ≤ _; omega⟩
theorem lesT_good {a b : Ln} (ha : okS a) (hb : okS b) {x e : Int} (hx : 0 ≤ x ∧ x ≤ 10000000000) (he : e ≤ 10000000000) : goodL (lesT a b x e) := by
  have p := at_in2 ha hx.1 hx.2
  have q := at_in2 hb hx.1 hx.2
  unfold lesT
  split
  · exact lesS_good hb ha hx he q (by omega)
  · exact lesS_good ha hb hx he p (by omega)
theorem endZ_in {F G : List Ln} (hF : stdT F) (hG : stdT G) {i : Nat} (hi : i < (fromsT F G).length) : iA (fromsT F G) i ≤ endZ (fromsT F G) i ∧ endZ (fromsT F G) i ≤ 10000000000 := by
  have a := froms_in hF hG (iA_mem hi)
  unfold endZ
  split
  · rename_i h1
    have b := froms_in hF hG (iA_mem h1)
    have c := iA_lt (froms_sorted F G) (i := i) (j := i + 1) (by omega) h1
    omega
  · omega
theorem lstN_len (L M : List Ln) (X : List Int) (i : Nat) : (lstN L M X i).length ≤ 2 * i := by
  induction i with
  | zero => simp [lstN]
  | succ i ih =>
    simp only [lstN, List.length_append]
    have : (lesP L M X i).length ≤ 2 := les_len _ _ _ _
    omega
theorem lstN_good {F G : List Ln} (hF : stdT F) (hG : stdT G) : ∀ i, i ≤ (fromsT F G).length → goodL (lstN F G (fromsT F G) i)
  | 0, _ => by intro a ha; cases ha
  | i + 1, hi => by
    have ih := lstN_good hF hG i (by omega)
    obtain ⟨f1, f2, f3⟩ := from_at hF hG (i := i) (by omega)
    intro a ha
    simp only [lstN] at ha
    rcases List.mem_append.1 ha with h1 | h1
    · exact ih a h1
    · exact lesT_good (std_okS hF f2) (std_okS hG f3) f1 (endZ_in hF hG (by omega)).2 a h1
theorem both_z {L M : List Ln} (h : bothE L M = 0) : chkT L = 0 ∧ chkT M = 0 := by
  unfold bothE at h
  split at h
  · exact ⟨by assumption, h⟩
  · exact absurd h (by assumption)

theorem least_known : Known Try.prog 16 leastC := by
  refine known1 (nt := 61) (An := fun (l, m) => (lst_an l m)) (labs := []) (lit := false) (em := em_least) sh_least_le (by kernel_rfl) mixedT tyT_ok (.cons pboth_known (.cons froms_known (.cons pfind_known (.cons lesser_known (.cons pdone_known .nil))))) Try.func16 (by kernel_rfl) (fun a => by obtain ⟨l, m⟩ := a; kernel_rfl) (fun a => by obtain ⟨l, m⟩ := a; rfl) (fun a ha => ?_)
  obtain ⟨l, m⟩ := a
  refine ⟨_, vc_least l m, ?_⟩
  simp only [iA_cell, iSV_len]
  simp only [cell0, cell1, cell2, eta3, tri_lnSV, lnSV_len]
  simp only [Int.reduceLE, Int.reduceLT, Int.reduceEq, Int.reduceNe, Nat.reduceLeDiff, Nat.reduceEqDiff, beq_eq_false_iff_ne, beq_iff_eq, decide_eq_decide, ne_eq, eq_self, true_and, and_true, and_self, and_false, false_and, Bool.not_true, Bool.not_false, Bool.false_eq_true, Bool.true_eq_false, false_implies, true_implies, implies_true, imp_false, not_true, not_false_eq_true, decide_eq_true_eq, decide_eq_false_iff_not, Bool.not_eq_true', Bool.not_eq_false', Bool.and_eq_true, Classical.not_not, decide_true, decide_false, Bool.and_true, Bool.true_and, if_true, if_false, Ob_iff]
  have hl := tri_len l
  have hm := tri_len m
  have hfl := froms_len (tri l) (tri m)
  refine ⟨fun h => ?_, fun h => ?_⟩
  · have e : lstE (tri l) (tri m) = bothE (tri l) (tri m) := by unfold lstE; rw [if_neg h]
    unfold lstV; rw [e, if_neg h]; exact ⟨rfl, rfl⟩
  · have hc := both_z h
    have sl := chk_ok.1 hc.1
    have sm := chk_ok.1 hc.2
    have ee : lstE (tri l) (tri m) = doneE (lstT (tri l) (tri m)) := by unfold lstE; rw [if_pos h]
    have ev : lstV (tri l) (tri m) = doneV (lstT (tri l) (tri m)) := by unfold lstV doneV; rw [ee]
    have hb1 := sl.2.1; have hb2 := sm.2.1
    refine ⟨hc, ⟨0, rfl, rfl, by omega, hc.1, hc.2⟩, fun i ⟨i1, i2, i3⟩ => ⟨fun h3 => ?_, fun h3 => ?_⟩⟩
    · have hi : i < (fromsT (tri l) (tri m)).length := by omega
      obtain ⟨f1, f2, f3⟩ := from_at sl sm hi
      have hz := endZ_in sl sm hi
      have hn := lstN_len (tri l) (tri m) (fromsT (tri l) (tri m)) i
      have hw : IntKind.i64.wrap ((i : Int) + 1) = ((i + 1 : Nat) : Int) := by rw [wrapI (by omega)]; omega
      simp only [hw, Int.toNat_natCast]
      have nx : ∀ z, z = endZ (fromsT (tri l) (tri m)) i → lnSV (lstN (tri l) (tri m) (fromsT (tri l) (tri m)) i) ++ lnSV (lesT (lnA (tri l) (fndT (tri l) (iA (fromsT (tri l) (tri m)) i))) (lnA (tri m) (fndT (tri m) (iA (fromsT (tri l) (tri m)) i))) (iA (fromsT (tri l) (tri m)) i) z) = lnSV (lstN (tri l) (tri m) (fromsT (tri l) (tri m)) (i + 1)) := fun z hz => by
        subst hz; rw [← lnSV_app]; rfl
      have ll : ∀ z, (lesT (lnA (tri l) (fndT (tri l) (iA (fromsT (tri l) (tri m)) i))) (lnA (tri m) (fndT (tri m) (iA (fromsT (tri l) (tri m)) i))) (iA (fromsT (tri l) (tri m)) i) z).length ≤ 2 := fun z => les_len _ _ _ _
      refine ⟨by omega, fun h4 => ?_, fun h4 => ?_⟩
      · have h5 := froms_in sl sm (iA_mem (i := i + 1) (X := fromsT (tri l) (tri m)) (by omega))
        have h6 : iA (fromsT (tri l) (tri m)) (i + 1) - 1 = endZ (fromsT (tri l) (tri m)) i := by unfold endZ; rw [if_pos (by omega)]
        simp only [wrapI (n := iA (fromsT (tri l) (tri m)) (i + 1) - 1) (by omega)]
        have l2 := ll (iA (fromsT (tri l) (tri m)) (i + 1) - 1)
        exact ⟨by omega, hc.1, by omega, hc.2, by omega, ⟨std_ok sl f2, std_ok sm f3, f1, by omega, by omega⟩, by omega, ⟨i + 1, rfl, nx _ h6, ⟨by omega, hc.1, hc.2⟩, by omega⟩⟩
      · have h6 : 10000000000 = endZ (fromsT (tri l) (tri m)) i := by unfold endZ; rw [if_neg (by omega)]
        have l2 := ll 10000000000
        exact ⟨hc.1, by omega, hc.2, by omega, ⟨std_ok sl f2, std_ok sm f3, f1⟩, by omega, ⟨i + 1, rfl, nx _ h6, ⟨by omega, hc.1, hc.2⟩, by omega⟩⟩
    · have e : i = (fromsT (tri l) (tri m)).length := by omega
      subst e
      have hn := lstN_len (tri l) (tri m) (fromsT (tri l) (tri m)) (fromsT (tri l) (tri m)).length
      refine ⟨⟨by omega, lstN_good sl sm _ (Nat.le_refl _)⟩, ?_, ?_⟩
      · rw [ev]; rfl
      · rw [ee]; rfl

theorem jn_good {L : List Ln} (h : goodL L) : goodL (jnT L) := jnN_good h _ (Nat.le_refl _)
theorem std_good {L : List Ln} (h : stdT L) : goodL L := fun a ha => okS_ok (std_mem h ha)
theorem lstV_good (L M : List Ln) : goodL (lstV L M) ∧ (lstV L M).length ≤ 100000 := by
  unfold lstV
  split
  · rename_i h
    have hb : bothE L M = 0 := by
      unfold lstE at h
      split at h
      · assumption
      · exact absurd h (by assumption)
    have hc := both_z hb
    have sl := chk_ok.1 hc.1
    have sm := chk_ok.1 hc.2
    have hfl := froms_len L M
    have hn := lstN_len L M (fromsT L M) (fromsT L M).length
    have hj : (jnT (lstT L M)).length ≤ (lstT L M).length := jnN_len _ _
    have e : lstT L M = lstN L M (fromsT L M) (fromsT L M).length := rfl
    rw [← e] at hn
    have hb1 := sl.2.1; have hb2 := sm.2.1
    exact ⟨jn_good (lstN_good sl sm _ (Nat.le_refl _)), by omega⟩
  · exact ⟨(fun a ha => by cases ha), by simp⟩
theorem greatest_known : Known Try.prog 17 greatestC := by
  refine known1 (nt := 28) (An := fun (l, m) => noAnn) (labs := []) (lit := false) (em := em_greatest) sh_greatest_le (by kernel_rfl) mixedT tyT_ok (.cons pboth_known (.cons turned_known (.cons least_known .nil))) Try.func17 (by kernel_rfl) (fun a => by obtain ⟨l, m⟩ := a; kernel_rfl) (fun a => by obtain ⟨l, m⟩ := a; rfl) (fun a ha => ?_)
  obtain ⟨l, m⟩ := a
  refine ⟨_, vc_greatest l m, ?_⟩
  simp only [Int.reduceLE, Int.reduceLT, Int.reduceEq, Int.reduceNe, Nat.reduceLeDiff, Nat.reduceEqDiff, beq_eq_false_iff_ne, beq_iff_eq, decide_eq_decide, ne_eq, eq_self, true_and, and_true, and_self, and_false, false_and, Bool.not_true, Bool.not_false, Bool.false_eq_true, Bool.true_eq_false, false_implies, true_implies, implies_true, imp_false, not_true, not_false_eq_true, decide_eq_true_eq, decide_eq_false_iff_not, Bool.not_eq_true', Bool.not_eq_false', Bool.and_eq_true, Classical.not_not, decide_true, decide_false, Bool.and_true, Bool.true_and, if_true, if_false, Ob_iff]
  simp only [tri_lnSV, lnSV_len]
  have hl := tri_len l
  have hm := tri_len m
  refine ⟨fun h => ?_, fun h => ?_⟩
  · have e : grtE (tri l) (tri m) = bothE (tri l) (tri m) := by unfold grtE; rw [if_neg h]
    unfold grtV; rw [e, if_neg h]; exact ⟨rfl, rfl⟩
  · have hc := both_z h
    have sl := chk_ok.1 hc.1
    have sm := chk_ok.1 hc.2
    have hb1 := sl.2.1; have hb2 := sm.2.1
    have ee : grtE (tri l) (tri m) = lstE (turnT (tri l)) (turnT (tri m)) := by unfold grtE; rw [if_pos h]
    refine ⟨⟨by omega, std_good sl⟩, ⟨by omega, std_good sm⟩, fun h2 => ?_, fun h2 => ?_⟩
    · unfold grtV; rw [ee, if_neg h2]; exact ⟨rfl, rfl⟩
    · have hg := lstV_good (turnT (tri l)) (turnT (tri m))
      refine ⟨⟨hg.2, hg.1⟩, ?_, ?_⟩
      · unfold grtV; rw [ee, if_pos h2]
      · rw [ee, h2]

end Go.Rx
