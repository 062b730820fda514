/- A year: what is told of it is nobody's: the plain law. -/
import Derived.Test.YtkmiakgpkgmcbaaYv
namespace Go.Rx
open Go.Proofs
set_option linter.unusedSimpArgs false
set_option linter.unusedVariables false

def slP (L : List SV) (i : Nat) (p : Int) : SV := .agg [.int .i64 p, .int .i64 (cl L i 1), .int .i64 (cl L i 2), .int .i64 (cl L i 3), .int .i64 (cl L i 4), .int .i64 (cl L i 5), .sl shK (slS L i), .int .i64 (cl L i 7), .sl tkK (slT L i), .int .i64 (cl L i 9)]
theorem elc_lt {Q : List SV} {x : SV} {j c : Nat} (h : j < Q.length) : elCell (Q ++ [x]) j c = elCell Q j c := elCell_lt h
theorem elc_at {Q : List SV} {x : SV} {c : Nat} : elCell (Q ++ [x]) Q.length c = x.cells.getD c .any := elCell_at
theorem plus_congr {P Q : List SV} {j : Nat} (a : Tot) (h : ∀ c, elCell P j c = elCell Q j c) : a.err P j = a.err Q j ∧ a.plus P j = a.plus Q j := by
  have hc : ∀ c, cl P j c = cl Q j c := fun c => by unfold cl; rw [h]
  have hS : slS P j = slS Q j := by unfold slS; rw [h]
  have hT : slT P j = slT Q j := by unfold slT; rw [h]
  have he : a.err P j = a.err Q j := by unfold Tot.err; simp only [hc, hS, hT]
  exact ⟨he, by unfold Tot.plus; simp only [he, hc, hS, hT]⟩
theorem upT_congr {n : Int} {P Q : List SV} : ∀ {j : Nat}, (∀ i, i < j → ∀ c, elCell P i c = elCell Q i c) → upT n P j = upT n Q j
  | 0, _ => rfl
  | j + 1, h => by
    simp only [upT]
    rw [upT_congr fun i hi => h i (by omega)]
    exact (plus_congr _ (h j (by omega))).2
theorem feN_z {f : Nat → Int} : ∀ {j : Nat}, (∀ i, i < j → f i = 0) → feN f j = 0
  | 0, _ => rfl
  | j + 1, h => by rw [feN_next (feN_z fun i hi => h i (by omega))]; exact h j (by omega)
theorem upto_ok {n : Int} {L : List SV} {i : Nat} {Q : List SV} {a : Tot} (h : upI n L i Q a) (hs : sumE n [] = 0) {k : Int} (h0 : 0 ≤ k) (h1 : k ≤ Q.length) : uptoE n Q k = 0 ∧ uptoT n Q k = upT n Q k.toNat := by
  have hl : (Q.take k.toNat).length = k.toNat := by rw [List.length_take]; omega
  have hc : ∀ i, i < k.toNat → ∀ c, elCell (Q.take k.toNat) i c = elCell Q i c := fun i hi c => elCell_take' (by omega)
  have e : uptoE n Q k = 0 := by
    unfold uptoE
    rw [if_neg (by omega), if_neg (by omega), hl]
    refine feN_z fun i hi => ?_
    rw [upT_congr fun i' hi' => hc i' (by omega), (plus_congr _ (hc i hi)).1]
    exact (h.2.2.2.2 i (by omega)).1
  exact ⟨e, by unfold uptoT; rw [if_pos e, hl]; exact upT_congr hc⟩
theorem cpN_get {Q : List SV} : ∀ {m j : Nat}, j < m → (cpN Q m).getD j .any = slA Q j
  | 0, j, h => by omega
  | m + 1, j, h => by
    simp only [cpN]
    by_cases hj : j < m
    · have : (cpN Q m ++ [slA Q m]).getD j .any = (cpN Q m).getD j .any := by simp [List.getD_eq_getElem?_getD, List.getElem?_append_left (show j < (cpN Q m).length by rw [cpN_len]; exact hj)]
      rw [this]; exact cpN_get hj
    · have e : j = (cpN Q m).length := by rw [cpN_len]; omega
      have : (cpN Q m ++ [slA Q m]).getD j .any = slA Q m := by rw [e]; simp [List.getD_eq_getElem?_getD]
      rw [this, show m = j by rw [cpN_len] at e; omega]
theorem elc_drop (l : List SV) (k j c : Nat) : elCell (l.drop k) j c = elCell l (k + j) c := by
  have e : (l.drop k).getD j .any = l.getD (k + j) .any := by rw [List.getD_eq_getElem?_getD, List.getElem?_drop, ← List.getD_eq_getElem?_getD]
  unfold elCell; rw [e]
theorem elc_cp {Q : List SV} {k j c : Nat} (h : k + j < Q.length) : elCell ((cpN Q Q.length).drop k) j c = (slA Q (k + j)).cells.getD c .any := by
  rw [elc_drop]; unfold elCell; rw [cpN_get h]
theorem colS_pl (A S : List SV) (m : Nat) : ∀ i, i ≤ m → colS (plR A S m) 0 i = colS A 0 i + colS S 0 i
  | 0, _ => rfl
  | i + 1, h => by
    simp only [colS]
    rw [colS_pl A S m i (by omega)]
    have : cl (plR A S m) i 0 = cl A i 0 + cl S i 0 := (mkR_cl (show i < m by omega) _ _).1
    rw [this]; omega
/-- What holds of the sums of payslips that are posted. -/
def sums (n : Int) (b : Tot) : Prop := totOK b.c b.t b.s b.x b.n b.k b.y b.S ∧ (b.S.length : Int) = n ∧ b.c = b.x + colS b.S 0 b.S.length + b.k + b.y ∧ b.n = b.k + b.y
theorem goodP {n : Int} {b : Tot} {Q : List SV} {j : Nat} {p : Int} (hn : n ≤ 64) (hb : sums n b) (he : b.err Q j = 0) (hc : chkY p (cl Q j 1) (cl Q j 2) (cl Q j 3) (cl Q j 4) (cl Q j 5) (slS Q j) (cl Q j 7) (slT Q j) (cl Q j 9) n = 0) :
    goodB b.c b.t b.s b.x b.S b.n b.k b.y (cl Q j 1) (cl Q j 2) (cl Q j 3) (cl Q j 4) (slS Q j) (cl Q j 7) (slT Q j) (cl Q j 9) = true ∧
    b.plus Q j = ⟨b.c + cl Q j 1, b.t + cl Q j 2, b.s + cl Q j 3, b.x + cl Q j 4, cl Q j 5, plR b.S (slS Q j) (slS Q j).length, b.n + cl Q j 7, b.k + colS (slT Q j) 4 (slT Q j).length, b.y + cl Q j 9⟩ ∧ sums n (b.plus Q j) := by
  obtain ⟨_, hm, _, _, _, h6, h7⟩ := chkY_zero hc
  obtain ⟨hb1, hb2, hb3, hb4⟩ := hb
  have hl : b.S.length = (slS Q j).length := by omega
  have hc' := hc
  rw [← hm] at hc'
  obtain ⟨g1, g2⟩ := addE_good hb1 hc' hl (by omega)
  have hg : goodB b.c b.t b.s b.x b.S b.n b.k b.y (cl Q j 1) (cl Q j 2) (cl Q j 3) (cl Q j 4) (slS Q j) (cl Q j 7) (slT Q j) (cl Q j 9) = true := chkE_z.1 (g1.symm.trans he)
  have hpl : b.plus Q j = ⟨b.c + cl Q j 1, b.t + cl Q j 2, b.s + cl Q j 3, b.x + cl Q j 4, cl Q j 5, plR b.S (slS Q j) (slS Q j).length, b.n + cl Q j 7, b.k + colS (slT Q j) 4 (slT Q j).length, b.y + cl Q j 9⟩ := by
    unfold Tot.plus pk
    rw [he, g2 hg]
    simp only [if_true]
  refine ⟨hg, hpl, ?_⟩
  rw [hpl]
  unfold goodB at hg
  simp only [r7, r3, Bool.and_eq_true] at hg
  obtain ⟨⟨⟨q1, q2, q3⟩, q4, q5, q6, q7⟩, q8⟩ := hg
  have hpL : (plR b.S (slS Q j) (slS Q j).length).length = (slS Q j).length := by unfold plR; rw [mkR_len]
  refine ⟨⟨⟨q1, q2, q3, q4, q5, q6, q7⟩, fun j' hj => ?_⟩, ?_, ?_, ?_⟩
  · have hj' : j' < (slS Q j).length := by rw [← hpL]; exact hj
    unfold plR
    rw [(mkR_cl hj' _ _).1, (mkR_cl hj' _ _).2]
    exact shG_get q8 hj'
  · show ((plR b.S (slS Q j) (slS Q j).length).length : Int) = n
    rw [hpL]; exact hm
  · show b.c + cl Q j 1 = b.x + cl Q j 4 + colS (plR b.S (slS Q j) (slS Q j).length) 0 (plR b.S (slS Q j) (slS Q j).length).length + (b.k + colS (slT Q j) 4 (slT Q j).length) + (b.y + cl Q j 9)
    rw [hpL, colS_pl _ _ _ _ (Nat.le_refl _), ← hl, hb3]
    rw [← hl] at h6
    omega
  · show b.n + cl Q j 7 = b.k + colS (slT Q j) 4 (slT Q j).length + (b.y + cl Q j 9)
    omega
theorem colS_zero (m : Nat) : ∀ i, i ≤ m → colS (mkR m (fun _ => 0) (fun _ => 0)) 0 i = 0
  | 0, _ => rfl
  | i + 1, h => by
    simp only [colS]
    rw [colS_zero m i (by omega), (mkR_cl (show i < m by omega) _ _).1]; rfl
theorem up_all {n : Int} {L : List SV} {i : Nat} {Q : List SV} {a : Tot} (h : upI n L i Q a) (hs : sumE n [] = 0) : ∀ j, j ≤ Q.length → sums n (upT n Q j)
  | 0, _ => by
    have e : upT n Q 0 = ⟨0, 0, 0, 0, 0, mkR n.toNat (fun _ => 0) (fun _ => 0), 0, 0, 0⟩ := by
      simp only [upT, Tot.zero]; rw [sumR_nil hs]
    rw [e]
    refine ⟨⟨⟨rfl, rfl, rfl, rfl, rfl, rfl, rfl⟩, fun j hj => ?_⟩, ?_, ?_, rfl⟩
    · rw [(mkR_cl (by rw [mkR_len] at hj; exact hj) _ _).1, (mkR_cl (by rw [mkR_len] at hj; exact hj) _ _).2]; exact ⟨rfl, rfl⟩
    · show ((mkR n.toNat (fun _ => 0) (fun _ => 0)).length : Int) = n
      rw [mkR_len]; have := h.1.1; omega
    · show (0 : Int) = 0 + colS (mkR n.toNat (fun _ => 0) (fun _ => 0)) 0 (mkR n.toNat (fun _ => 0) (fun _ => 0)).length + 0 + 0
      rw [mkR_len, colS_zero _ _ (Nat.le_refl _)]; rfl
  | j + 1, hj => by
    have ih := up_all h hs j (by omega)
    obtain ⟨q1, q2⟩ := h.2.2.2.2 j (by omega)
    exact (goodP (by have := h.1.2.1; omega) ih q1 q2).2.2
theorem cl_at {Q L : List SV} {i : Nat} {p : Int} (c : Nat) : cl (Q ++ [slP L i p]) Q.length c = ((slP L i p).cells.getD c .any).toInt := by unfold cl; rw [elCell_at]
/-- One payslip more. -/
theorem up_put {n : Int} {L : List SV} {i : Nat} {Q : List SV} {a : Tot} (h : upI n L i Q a) (hs : sumE n [] = 0) (hi : i < L.length) (hsi : (slS L i).length ≤ 30 ∧ (slT L i).length ≤ 30) {p : Int}
    (ht : tryE n Q a p (cl L i 1) (cl L i 2) (cl L i 3) (cl L i 4) (cl L i 5) (slS L i) (cl L i 7) (slT L i) (cl L i 9) = 0) :
    upI n L (i + 1) (Q ++ [slP L i p]) ⟨a.c + cl L i 1, a.t + cl L i 2, a.s + cl L i 3, a.x + cl L i 4, cl L i 5, addR a.S (slS L i), a.n + cl L i 7, a.k + colS (slT L i) 4 (slT L i).length, a.y + cl L i 9⟩ := by
  have ht2 := ht
  unfold tryE at ht
  split at ht
  · exact absurd ht (by assumption)
  rename_i hc
  split at ht
  · cases ht
  have hc : chkY p (cl L i 1) (cl L i 2) (cl L i 3) (cl L i 4) (cl L i 5) (slS L i) (cl L i 7) (slT L i) (cl L i 9) n = 0 := Classical.byContradiction fun hn => hc hn
  have hlt : ∀ j, j < Q.length → ∀ c, elCell (Q ++ [slP L i p]) j c = elCell Q j c := fun j hj c => elCell_lt hj
  have eu : ∀ j, j ≤ Q.length → upT n (Q ++ [slP L i p]) j = upT n Q j := fun j hj => upT_congr fun j' hj' => hlt j' (by omega)
  have eS : slS (Q ++ [slP L i p]) Q.length = slS L i := by unfold slS; rw [elCell_at]; rfl
  have eT : slT (Q ++ [slP L i p]) Q.length = slT L i := by unfold slT; rw [elCell_at]; rfl
  have e0 : cl (Q ++ [slP L i p]) Q.length 0 = p := by unfold cl; rw [elCell_at]; rfl
  have e1 : cl (Q ++ [slP L i p]) Q.length 1 = cl L i 1 := by rw [cl_at]; rfl
  have e2 : cl (Q ++ [slP L i p]) Q.length 2 = cl L i 2 := by rw [cl_at]; rfl
  have e3 : cl (Q ++ [slP L i p]) Q.length 3 = cl L i 3 := by rw [cl_at]; rfl
  have e4 : cl (Q ++ [slP L i p]) Q.length 4 = cl L i 4 := by rw [cl_at]; rfl
  have e5 : cl (Q ++ [slP L i p]) Q.length 5 = cl L i 5 := by rw [cl_at]; rfl
  have e7 : cl (Q ++ [slP L i p]) Q.length 7 = cl L i 7 := by rw [cl_at]; rfl
  have e9 : cl (Q ++ [slP L i p]) Q.length 9 = cl L i 9 := by rw [cl_at]; rfl
  have ee : a.err (Q ++ [slP L i p]) Q.length = 0 := by unfold Tot.err; rw [e1, e2, e3, e4, e7, e9, eS, eT]; exact ht
  have hn : (Q ++ [slP L i p]).length = Q.length + 1 := by simp
  refine ⟨h.1, by rw [hn]; have := h.2.1; omega, fun j hj => ?_, ?_, fun j hj => ?_⟩
  · by_cases hj2 : j < Q.length
    · unfold slS slT; rw [elCell_lt hj2, elCell_lt hj2]; exact h.2.2.1 j hj2
    · rw [show j = Q.length by omega, eS, eT]; exact hsi
  · rw [hn]
    simp only [upT]
    rw [eu _ (Nat.le_refl _), ← h.2.2.2.1]
    unfold Tot.plus pk
    rw [ee, e1, e2, e3, e4, e5, e7, e9, eS, eT]
    simp only [if_true]
  · by_cases hj2 : j < Q.length
    · rw [eu j (by omega), (plus_congr _ (hlt j hj2)).1]
      have hc2 : ∀ c, cl (Q ++ [slP L i p]) j c = cl Q j c := fun c => by unfold cl; rw [hlt j hj2]
      have hS2 : slS (Q ++ [slP L i p]) j = slS Q j := by unfold slS; rw [hlt j hj2]
      have hT2 : slT (Q ++ [slP L i p]) j = slT Q j := by unfold slT; rw [hlt j hj2]
      simp only [hc2, hS2, hT2]
      exact h.2.2.2.2 j hj2
    · rw [show j = Q.length by omega, eu _ (Nat.le_refl _), ← h.2.2.2.1, e0, e1, e2, e3, e4, e5, e7, e9, eS, eT]
      exact ⟨ee, hc⟩
theorem colS_bd {S : List SV} (h : ∀ j, j < S.length → rightB (cl S j 0) = true) : ∀ {i : Nat}, i ≤ S.length → -100000000000 * (i : Int) ≤ colS S 0 i ∧ colS S 0 i ≤ 100000000000 * (i : Int)
  | 0, _ => ⟨by simp [colS], by simp [colS]⟩
  | i + 1, hi => by
    have ih := colS_bd h (i := i) (by omega)
    have := rightB_iff.1 (h i (by omega))
    simp only [colS]
    omega
theorem pz_z {e x y : Int} (h : e = 0) : pz e x y = x + y := if_pos h
theorem upto_no {n : Int} {Q : List SV} {k : Int} (h : k < 0 ∨ Q.length < k) : uptoE n Q k = 3 ∧ uptoT n Q k = .zero [] := by
  have e : uptoE n Q k = 3 := by unfold uptoE; rw [if_pos h]
  exact ⟨e, by unfold uptoT; rw [if_neg (by rw [e]; decide)]⟩
theorem up_ok {n : Int} {L : List SV} {i : Nat} {Q : List SV} {a : Tot} (h : upI n L i Q a) (hi : i ≤ L.length) (hL : L.length ≤ 60) : slOK Q := by
  rw [slOK_iff]
  exact ⟨by have := h.2.1; omega, fun j hj => by have := h.2.2.1 j hj; omega⟩
theorem up_on {n : Int} {L : List SV} {i : Nat} {Q : List SV} {a : Tot} (h : upI n L i Q a) {j : Nat} (hj : i ≤ j) : upI n L j Q a := ⟨h.1, by have := h.2.1; omega, h.2.2⟩

theorem up_z {n : Int} {L : List SV} {Q : List SV} {a : Tot} (h : upI n L L.length Q a) : L.length ≤ 60 ∧ Q.length ≤ 60 ∧ sumE n [] = 0 ∧ (a.S.length : Int) = n := by
  have h1 := h.1
  have hs : sumE n [] = 0 := sumE_in (by omega) (by omega)
  have h2 := h1.2.2
  unfold smB at h2
  rw [Bool.and_eq_true, decide_eq_true_eq] at h2
  have h3 := (up_all h hs Q.length (Nat.le_refl _)).2.1
  rw [← h.2.2.2.1] at h3
  exact ⟨h2.2, by have := h.2.1; omega, hs, h3⟩
theorem yown2_ok {n : Int} {L : List SV} {y c : YY} (hU : upI n L L.length y.Q y.a) (hC : cpI y c 60) : wpJ yoCx noSc (fromC 43 (fromC 34 (bodyOf Try.f6))) (yo_an n L) none 0 (yoF n y c) (retQ yoCx Try.f6 (.bool true)) := by
  rw [vc_yown2]
  simp only [Int.reduceLE, Int.reduceLT, Int.reduceEq, Int.reduceNe, Nat.reduceLeDiff, Nat.reduceEqDiff, beq_eq_false_iff_ne, beq_iff_eq, decide_eq_decide, ne_eq, eq_self, true_and, and_true, and_self, and_false, false_and, Bool.not_true, Bool.not_false, Bool.false_eq_true, Bool.true_eq_false, false_implies, true_implies, implies_true, imp_false, not_true, not_false_eq_true, decide_eq_true_eq, decide_eq_false_iff_not, Bool.not_eq_true', Bool.not_eq_false', Bool.and_eq_true, Classical.not_not, decide_true, decide_false, Bool.and_true, Bool.true_and, if_true, if_false, Ob_iff]
  simp only [cl_eq, slS_eq, slT_eq, true_and]
  obtain ⟨hL, hQ, hs, hS⟩ := up_z hU
  have hn := hU.1
  refine ⟨by omega, ⟨(0, y, c, y.a.S), ?_⟩, fun x hx => ?_⟩
  · (repeat' (with_reducible apply And.intro)) <;> first | rfl | exact hU | exact hC | exact Nat.zero_le _ | (show y.a.S.length ≤ 1000000000; omega)
  clear hU hC hL hQ hs hS hn
  clear y c
  obtain ⟨j, y, c, R⟩ := x
  dsimp only at hx ⊢
  obtain ⟨h1, h2, hU, hC⟩ := hx
  refine ⟨fun hlt => ⟨by omega, by omega, by omega, (j + 1, y, c, R.set j (.agg (setL (R.getD j .any).cells 0 [.int .i64 98]))), ?_⟩, fun hge => ?_⟩
  · (repeat' (with_reducible apply And.intro)) <;> first | rfl | exact hU | exact hC | (rw [wrapI (by omega)]; rfl) | (simp only [List.length_set]; omega) | (simp only [List.length_set])
  obtain ⟨hL, hQ, hs, hS⟩ := up_z hU
  have hn := hU.1
  have hok := up_ok hU (Nat.le_refl _) hL
  rw [cpN_len]
  refine ⟨hok, rfl, fun _ => ⟨by have := hC.1; omega, fun _ => ⟨⟨(0, y), ?_⟩, fun x hx => ?_⟩⟩⟩
  · (repeat' (with_reducible apply And.intro)) <;> first | rfl | exact hU | exact Nat.zero_le _
  clear hU hC hL hQ hs hS hn hok h1 h2 hge
  obtain ⟨j, y⟩ := x
  dsimp only at hx ⊢
  obtain ⟨h1, hU⟩ := hx
  obtain ⟨hL, hQ, hs, hS⟩ := up_z hU
  have hn := hU.1
  have hok := up_ok hU (Nat.le_refl _) hL
  refine ⟨fun hlt => ?_, fun hge => ?_⟩
  · have hj : j < y.Q.length := by omega
    have ec : ∀ c, elCell (cpN y.Q y.Q.length) j c = (slA y.Q j).cells.getD c .any := fun c => by unfold elCell; rw [cpN_get hj]
    have eS : slS (cpN y.Q y.Q.length) j = slS y.Q j := by unfold slS; rw [ec]; rfl
    have eT : slT (cpN y.Q y.Q.length) j = slT y.Q j := by unfold slT; rw [ec]; rfl
    have eL : ∀ c, cl (cpN y.Q y.Q.length) j c = ((slA y.Q j).cells.getD c .any).toInt := fun c => by unfold cl; rw [ec]
    have e0 : cl (cpN y.Q y.Q.length) j 0 = cl y.Q j 0 := eL 0
    have e1 : cl (cpN y.Q y.Q.length) j 1 = cl y.Q j 1 := eL 1
    have e2 : cl (cpN y.Q y.Q.length) j 2 = cl y.Q j 2 := eL 2
    have e3 : cl (cpN y.Q y.Q.length) j 3 = cl y.Q j 3 := eL 3
    have e4 : cl (cpN y.Q y.Q.length) j 4 = cl y.Q j 4 := eL 4
    have e5 : cl (cpN y.Q y.Q.length) j 5 = cl y.Q j 5 := eL 5
    have e7 : cl (cpN y.Q y.Q.length) j 7 = cl y.Q j 7 := eL 7
    have e9 : cl (cpN y.Q y.Q.length) j 9 = cl y.Q j 9 := eL 9
    clear eL ec
    have hl := hU.2.2.1 j hj
    simp only [e0, e1, e2, e3, e4, e5, e7, e9, eS, eT, eqS_refl, decide_true, Bool.and_self, cpN_len, Bool.true_eq_false, not_false_eq_true, eq_self, true_and, and_self, true_implies]
    refine ⟨by omega, by omega, by omega, (j + 1, y), ?_⟩
    (repeat' (with_reducible apply And.intro)) <;> first | rfl | exact hU | (rw [wrapI (by omega)]; rfl) | (dsimp only; omega)
  · obtain ⟨e1, t1⟩ := upto_ok hU hs (k := y.Q.length) (by omega) (Int.le_refl _)
    rw [Int.toNat_natCast, ← hU.2.2.2.1] at t1
    rw [e1, t1]
    exact ⟨⟨hok, by unfold in64; omega, by unfold in64; omega⟩, fun _ => ⟨by omega, ⟨by omega, by omega⟩, eqT_refl ..⟩, rfl⟩
theorem smB_in {L : List SV} (h : smB L = true) {i : Nat} (hi : i < L.length) : L.length ≤ 60 ∧ (slS L i).length ≤ 30 ∧ (slT L i).length ≤ 30 := by
  unfold smB at h
  rw [Bool.and_eq_true, decide_eq_true_eq] at h
  have := smN_get h.1 hi
  exact ⟨h.2, by omega, by omega⟩
theorem yown1_ok {n : Int} {L : List SV} (hn : in64 n) (hw : wfL slipK L) : wpJ yoCx noSc (bodyOf Try.f6) (yo_an n L) (some (34, fun s => atHead (yoA n L) s (fun _ => True))) 0 ⟨args0 0 [.int .i64 n, .sl slipK L], []⟩ (retQ yoCx Try.f6 (.bool true)) := by
  rw [vc_yown1]
  simp only [Int.reduceLE, Int.reduceLT, Int.reduceEq, Int.reduceNe, Nat.reduceLeDiff, Nat.reduceEqDiff, beq_eq_false_iff_ne, beq_iff_eq, decide_eq_decide, ne_eq, eq_self, true_and, and_true, and_self, and_false, false_and, Bool.not_true, Bool.not_false, Bool.false_eq_true, Bool.true_eq_false, false_implies, true_implies, implies_true, imp_false, not_true, not_false_eq_true, decide_eq_true_eq, decide_eq_false_iff_not, Bool.not_eq_true', Bool.not_eq_false', Bool.and_eq_true, Classical.not_not, decide_true, decide_false, Bool.and_true, Bool.true_and, if_true, if_false, Ob_iff]
  simp only [cl_eq, slS_eq, slT_eq, true_and]
  refine ⟨wfL_len hw, fun hsm hn0 hn30 => ⟨hn, sumE_in (by omega) (by omega), fun hs => ⟨⟨(0, ⟨[], ⟨0, 0, 0, 0, 0, sumR n [], 0, 0, 0⟩⟩), ?_⟩, fun x hx => ⟨fun hlt => ?_, fun hge => ?_⟩⟩⟩⟩
  · refine ⟨rfl, rfl, rfl, rfl, rfl, rfl, rfl, rfl, rfl, rfl, rfl, rfl, Nat.zero_le _, ⟨by omega, by omega, hsm⟩, Nat.le_refl _, (fun j hj => absurd hj (Nat.not_lt_zero _)), rfl, fun j hj => absurd hj (Nat.not_lt_zero _)⟩
  · obtain ⟨i, ⟨Q, a⟩⟩ := x
    dsimp only at hx hlt ⊢
    have hi : i < L.length := by omega
    obtain ⟨hL, hsi⟩ := smB_in hsm hi
    have hU := hx.2
    have hQi := hU.2.1
    have hS := (up_all hU hs Q.length (Nat.le_refl _)).2.1
    rw [← hU.2.2.2.1] at hS
    by_cases hc : chkY (cl L i 0) (cl L i 1) (cl L i 2) (cl L i 3) (cl L i 4) (cl L i 5) (slS L i) (cl L i 7) (slT L i) (cl L i 9) n = 0
    · simp only [hc, eq_self, not_true, not_false_eq_true, false_implies, true_implies, true_and, and_true, implies_true]
      refine ⟨⟨⟨by omega, by omega⟩, by omega, by omega, ⟨by omega, by omega, hn⟩, fun hp => ⟨(i + 1, ⟨Q, a⟩), ?_⟩, fun hp => ⟨⟨by omega, by omega, by omega⟩, ?_⟩⟩, fun x19 hx19 => by
        obtain ⟨Q', a'⟩ := x19
        dsimp only at hx19 ⊢
        obtain ⟨_, hQ', hU'⟩ := hx19
        refine ⟨⟨by omega, by omega⟩, ⟨(0, slS L i), rfl, hQ'.symm, rfl, Nat.zero_le _, rfl⟩, fun x21 h21 => ⟨fun h => ⟨⟨by omega, by omega⟩, by omega, by omega, (x21.1 + 1, x21.2.set x21.1 (.agg (setL (x21.2.getD x21.1 .any).cells 0 [.int .i64 (-3)]))), wrapI (by omega), rfl, ⟨by dsimp only; omega, by dsimp only; rw [List.length_set]; omega⟩, by dsimp only; omega⟩, fun h => ⟨⟨(0, slT L i, x21.2), rfl, rfl, rfl, Nat.zero_le _, rfl⟩, fun x24 h24 => ⟨fun h => ⟨⟨by omega, by omega⟩, by omega, by omega, (x24.1 + 1, x24.2.1.set x24.1 (.agg (setL (x24.2.1.getD x24.1 .any).cells 4 [.int .i64 (-3)])), x24.2.2), wrapI (by omega), rfl, rfl, ⟨by dsimp only; omega, by dsimp only; rw [List.length_set]; omega⟩, by dsimp only; omega⟩, fun h => ⟨(i + 1, ⟨Q', a'⟩), wrapI (by omega), rfl, rfl, rfl, rfl, rfl, rfl, rfl, rfl, rfl, rfl, rfl, ⟨by dsimp only; omega, hU'⟩, by dsimp only; omega⟩⟩⟩⟩⟩⟩
      · (repeat' (with_reducible apply And.intro)) <;> first | rfl | exact wrapI (by omega) | exact up_on hU (Nat.le_succ i) | (dsimp only; omega)
      by_cases hE : addE a.c a.t a.s a.x a.S a.n a.k a.y (cl L i 1) (cl L i 2) (cl L i 3) (cl L i 4) (slS L i) (cl L i 7) (slT L i) (cl L i 9) = 0
      · simp only [hE, eq_self, not_true, not_false_eq_true, false_implies, true_implies, true_and, and_true, implies_true]
        have hp' : cl L i 0 = (Q.length : Int) + 1 := by rw [hp]; exact wrapI (by omega)
        have hu := up_put hU hs hi hsi (p := cl L i 0) (by unfold tryE; rw [if_neg (fun hne => hne hc), if_neg (fun hne => hne hp')]; exact hE)
        refine ⟨⟨by omega, by omega⟩, ⟨.inr (by simp), by omega, by omega⟩, ⟨Q ++ [slA L i], ⟨a.c + cl L i 1, a.t + cl L i 2, a.s + cl L i 3, a.x + cl L i 4, cl L i 5, addR a.S (slS L i), a.n + cl L i 7, a.k + colS (slT L i) 4 (slT L i).length, a.y + cl L i 9⟩⟩, ?_⟩
        (repeat' (with_reducible apply And.intro)) <;> first | exact hi | rfl | exact if_pos hE | exact decide_eq_true hE | exact hu | trace_state
      · simp only [hE, eq_self, not_true, not_false_eq_true, false_implies, true_implies, true_and, and_true, implies_true]
        refine ⟨(i + 1, ⟨Q, a⟩), ?_⟩
        (repeat' (with_reducible apply And.intro)) <;> first | rfl | exact wrapI (by omega) | exact up_on hU (Nat.le_succ i) | (dsimp only; omega)
    · simp only [hc, eq_self, not_true, not_false_eq_true, false_implies, true_implies, true_and, and_true, implies_true]
      refine ⟨⟨⟨by omega, by omega⟩, by omega, by omega, ⟨by omega, by omega, hn⟩, ⟨(i + 1, ⟨Q, a⟩), ?_⟩⟩, fun x19 hx19 => by
        obtain ⟨Q', a'⟩ := x19
        dsimp only at hx19 ⊢
        obtain ⟨_, hQ', hU'⟩ := hx19
        refine ⟨⟨by omega, by omega⟩, ⟨(0, slS L i), rfl, hQ'.symm, rfl, Nat.zero_le _, rfl⟩, fun x21 h21 => ⟨fun h => ⟨⟨by omega, by omega⟩, by omega, by omega, (x21.1 + 1, x21.2.set x21.1 (.agg (setL (x21.2.getD x21.1 .any).cells 0 [.int .i64 (-3)]))), wrapI (by omega), rfl, ⟨by dsimp only; omega, by dsimp only; rw [List.length_set]; omega⟩, by dsimp only; omega⟩, fun h => ⟨⟨(0, slT L i, x21.2), rfl, rfl, rfl, Nat.zero_le _, rfl⟩, fun x24 h24 => ⟨fun h => ⟨⟨by omega, by omega⟩, by omega, by omega, (x24.1 + 1, x24.2.1.set x24.1 (.agg (setL (x24.2.1.getD x24.1 .any).cells 4 [.int .i64 (-3)])), x24.2.2), wrapI (by omega), rfl, rfl, ⟨by dsimp only; omega, by dsimp only; rw [List.length_set]; omega⟩, by dsimp only; omega⟩, fun h => ⟨(i + 1, ⟨Q', a'⟩), wrapI (by omega), rfl, rfl, rfl, rfl, rfl, rfl, rfl, rfl, rfl, rfl, rfl, ⟨by dsimp only; omega, hU'⟩, by dsimp only; omega⟩⟩⟩⟩⟩⟩
      (repeat' (with_reducible apply And.intro)) <;> first | rfl | exact wrapI (by omega) | exact up_on hU (Nat.le_succ i) | (dsimp only; omega)
  · obtain ⟨i, y⟩ := x
    dsimp only at hx hge ⊢
    have hU := up_on hx.2 hx.1
    clear hx hge
    obtain ⟨hL, hQ, _, hS⟩ := up_z hU
    refine ⟨up_ok hU (Nat.le_refl _) hL, by omega, ⟨(0, y, ⟨cpN y.Q y.Q.length, y.a⟩), ?_⟩, fun x hx => ⟨fun hlt => ?_, fun hge => ?_⟩⟩
    · (repeat' (with_reducible apply And.intro)) <;> first | rfl | exact hU | exact Nat.zero_le _ | exact And.intro (by dsimp only; rw [cpN_len]; exact Nat.le_refl _) (And.intro (by dsimp only; rw [cpN_len]; omega) (by dsimp only; omega))
    · obtain ⟨j, y, c⟩ := x
      dsimp only at hx hlt ⊢
      obtain ⟨h1, hU, hC⟩ := hx
      have hj : j < L.length := by omega
      obtain ⟨_, hsi⟩ := smB_in hsm hj
      obtain ⟨hC1, hC2, hC3⟩ := hC
      by_cases hc : chkY (IntKind.i64.wrap ((c.Q.length : Int) + 1)) (cl L j 1) (cl L j 2) (cl L j 3) (cl L j 4) (cl L j 5) (slS L j) (cl L j 7) (slT L j) (cl L j 9) n = 0
      · simp only [hc, eq_self, not_true, not_false_eq_true, false_implies, true_implies, true_and, and_true, implies_true]
        by_cases hE : addE c.a.c c.a.t c.a.s c.a.x c.a.S c.a.n c.a.k c.a.y (cl L j 1) (cl L j 2) (cl L j 3) (cl L j 4) (slS L j) (cl L j 7) (slT L j) (cl L j 9) = 0
        · simp only [hE, eq_self, not_true, not_false_eq_true, false_implies, true_implies, true_and, and_true, implies_true]
          refine ⟨⟨by omega, by omega⟩, ⟨by omega, by omega, hn⟩, ?_⟩
          have hl := addR_len c.a.S (slS L j)
          refine ⟨⟨by omega, by omega, by omega⟩, ⟨by omega, by omega⟩, ⟨.inr (by simp), by omega, by omega⟩, (j + 1, y, ⟨c.Q ++ [.agg [.int .i64 (IntKind.i64.wrap ((c.Q.length : Int) + 1)), .int .i64 (cl L j 1), .int .i64 (cl L j 2), .int .i64 (cl L j 3), .int .i64 (cl L j 4), .int .i64 (cl L j 5), .sl shK (slS L j), .int .i64 (cl L j 7), .sl tkK (slT L j), .int .i64 (cl L j 9)]], ⟨pk 0 c.a.c (cl L j 1), pk 0 c.a.t (cl L j 2), pk 0 c.a.s (cl L j 3), pk 0 c.a.x (cl L j 4), cl L j 5, addR c.a.S (slS L j), pk 0 c.a.n (cl L j 7), pk 0 c.a.k (colS (slT L j) 4 (slT L j).length), pk 0 c.a.y (cl L j 9)⟩⟩), ?_⟩
          (repeat' (with_reducible apply And.intro)) <;> first | rfl | exact wrapI (by omega) | exact hU | exact if_pos hE | exact And.intro (by dsimp only; simp only [List.length_append, List.length_cons, List.length_nil]; omega) (And.intro (by dsimp only; simp only [List.length_append, List.length_cons, List.length_nil]; omega) (by dsimp only; omega)) | (dsimp only; omega)
        · simp only [hE, eq_self, not_true, not_false_eq_true, false_implies, true_implies, true_and, and_true, implies_true]
          refine ⟨⟨by omega, by omega⟩, ⟨by omega, by omega, hn⟩, ?_⟩
          refine ⟨⟨by omega, by omega, by omega⟩, (j + 1, y, c), ?_⟩
          (repeat' (with_reducible apply And.intro)) <;> first | rfl | exact wrapI (by omega) | exact hU | exact And.intro hC1 (And.intro (by dsimp only; omega) hC3) | (dsimp only; omega)
      · simp only [hc, eq_self, not_true, not_false_eq_true, false_implies, true_implies, true_and, and_true, implies_true]
        refine ⟨⟨by omega, by omega⟩, ⟨by omega, by omega, hn⟩, (j + 1, y, c), ?_⟩
        (repeat' (with_reducible apply And.intro)) <;> first | rfl | exact wrapI (by omega) | exact hU | exact And.intro hC1 (And.intro (by dsimp only; omega) hC3) | (dsimp only; omega)
    · obtain ⟨j, y, c⟩ := x
      dsimp only at hx hge ⊢
      obtain ⟨h1, hU, hC1, hC2, hC3⟩ := hx
      refine ⟨(y, c), ?_⟩
      (repeat' (with_reducible apply And.intro)) <;> first | rfl | exact hU | exact And.intro hC1 (And.intro (by dsimp only; omega) hC3) | (dsimp only; omega)
end Go.Rx

