/- A year: what posting comes to. -/
import Derived.Test.YtkmiakgpkgmcbaaYp
namespace Go.Rx
open Go.Proofs
set_option linter.unusedSimpArgs false
set_option linter.unusedVariables false

def pstE (n : Int) (Q : List SV) (a : Tot) (L : List SV) (i : Nat) : Int := tryE n Q a (cl L i 0) (cl L i 1) (cl L i 2) (cl L i 3) (cl L i 4) (cl L i 5) (slS L i) (cl L i 7) (slT L i) (cl L i 9)
def slL (L : List SV) (i : Nat) : List SV := slC (cl L i 0) (cl L i 1) (cl L i 2) (cl L i 3) (cl L i 4) (cl L i 5) (slS L i) (cl L i 7) (slT L i) (cl L i 9)
def yrC (n : Int) (Q : List SV) (a : Tot) : List SV := [.int .i64 n, .sl slipK Q, .int .i64 a.c, .int .i64 a.t, .int .i64 a.s, .int .i64 a.x, .int .i64 a.h, .sl shK a.S, .int .i64 a.n, .int .i64 a.k, .int .i64 a.y]
/-- What holds of a year while payslips are posted. -/
def poI (n : Int) (L : List SV) (i : Nat) (Q : List SV) (a : Tot) : Prop := (0 ≤ n ∧ n ≤ 64 ∧ smB L = true) ∧ Q.length ≤ i ∧ (∀ j, j < Q.length → (slS Q j).length ≤ 30 ∧ (slT Q j).length ≤ 30) ∧ totOK a.c a.t a.s a.x a.n a.k a.y a.S ∧ (a.S.length : Int) = n
def po_an (n : Int) (L : List SV) : Nat → Option Ann
  | 0 => some ⟨Nat × List SV × Tot, fun x => ⟨[(0, .int .i64 n), (5, .ptr 251018 0), (7, .ptr 7 0), (8, .int .i64 x.2.1.length), (48, .sl slipK L), (49, .int .i64 L.length), (50, .int .i64 x.1)], [(7, .box 39 x.2.2.cs), (251018, .box 70 (yrC n x.2.1 x.2.2))]⟩, fun x => x.1 ≤ L.length ∧ poI n L x.1 x.2.1 x.2.2, fun x => L.length - x.1, [0, 5, 7, 8, 48, 49, 50], [7, 251018], [(99999, 46, 0, [])], fun x => fun
    | 4022 => some ⟨Int × Tot, fun z => ⟨[(0, .int .i64 n), (5, .ptr 251018 0), (7, .ptr 7 0), (8, .int .i64 x.2.1.length), (10, .ptr 10 0), (11, .int .i64 z.1), (12, .ptr 12 0), (48, .sl slipK L), (49, .int .i64 L.length), (50, .int .i64 x.1)], [(7, .box 39 x.2.2.cs), (10, .box 27 (slL L x.1)), (12, .box 39 z.2.cs), (251018, .box 70 (yrC n x.2.1 x.2.2))]⟩, fun z => x.1 < L.length ∧ poI n L x.1 x.2.1 x.2.2 ∧ z.1 = pstE n x.2.1 x.2.2 L x.1 ∧ (z.1 = 0 → z.2 = x.2.2.plus L x.1) ∧ (z.1 ≠ 0 → z.2 = x.2.2), fun _ => 0, [0, 5, 7, 8, 10, 11, 12, 48, 49, 50], [7, 10, 12, 251018], [], fun _ _ => none⟩
    | 4031 => some ⟨List SV × Tot, fun z => ⟨[(0, .int .i64 n), (5, .ptr 251018 0), (7, .ptr 7 0), (8, .int .i64 z.1.length), (48, .sl slipK L), (49, .int .i64 L.length), (50, .int .i64 x.1)], [(7, .box 39 z.2.cs), (251018, .box 70 (yrC n z.1 z.2))]⟩, fun z => x.1 < L.length ∧ poI n L (x.1 + 1) z.1 z.2, fun _ => 0, [0, 5, 7, 8, 48, 49, 50], [7, 251018], [], fun _ _ => none⟩
    | _ => none⟩
  | _ => none

def tr_ynew2 : Tr := trOf 19 tyT [(31, ssumC)] false [] false (fun _ _ _ => noAnn) [] Try.f11
theorem ynew2_in : InK Try.prog 11 tr_ynew2 := inK1 (by kernel_rfl) mixedT tyT_ok (.cons ssum_known .nil) .nil Try.func11 (by kernel_rfl)
theorem eqE_refl (w : Nat) (a : List SV) (i : Nat) : eqE w a a i = true := by unfold eqE; rw [List.all_eq_true]; intro k _; exact decide_eq_true rfl
theorem eqRw_refl (w : Nat) (a : List SV) : ∀ i, eqRw w a a i = true
  | 0 => rfl
  | i + 1 => by simp only [eqRw]; rw [eqRw_refl w a i, eqE_refl]; rfl
theorem eqS_refl (w : Nat) (a : List SV) : eqS_ w a a = true := by unfold eqS_; rw [eqRw_refl]; simp
theorem eqT_refl (c t s x h : Int) (S : List SV) (n k y : Int) : eqT c t s x h S n k y c t s x h S n k y = true := by
  unfold eqT; rw [eqS_refl]; simp
theorem slOK_po {n : Int} {L : List SV} {i : Nat} {Q : List SV} {a : Tot} (h : poI n L i Q a) (hL : L.length ≤ 60) (hi : i ≤ L.length) : slOK Q := by
  rw [slOK_iff]
  exact ⟨by have := h.2.1; omega, fun j hj => by have := h.2.2.1 j hj; omega⟩
theorem addB_r {x y : Int} (hx : rightB x = true) (hy : rightB y = true) : addB x y = rightB (x + y) := by unfold addB; rw [hx, hy]; rfl
theorem totB2 (a b c d : Int) : totB [el2 a b, el2 c d] 2 = ((addB 0 a && addB 0 b) && (addB a c && addB b d)) := by
  have e : ∀ k, colS [el2 a b, el2 c d] k 1 = cl [el2 a b, el2 c d] 0 k := fun k => Int.zero_add _
  show ((true && (addB 0 a && addB 0 b)) && (addB (colS [el2 a b, el2 c d] 0 1) c && addB (colS [el2 a b, el2 c d] 1 1) d)) = _
  rw [e, e]; rfl
theorem rowB_all {R : List SV} {k : Nat} {f : Nat → Bool} : ∀ n, (∀ i, i < n → rowC R k i = f i) → (∀ i, i < n → f i = true) → rowB R k n = true
  | 0, _, _ => rfl
  | n + 1, h, hf => by simp only [rowB]; rw [rowB_all n (fun i hi => h i (by omega)) (fun i hi => hf i (by omega)), h n (by omega), hf n (by omega)]; rfl
theorem rowB_sh {A S : List SV} : ∀ n, (∀ i, i < n → (rightB (cl A i 0) = true ∧ rightB (cl A i 1) = true) ∧ rightB (cl S i 0) = true ∧ rightB (cl S i 1) = true) → rowB (two A S) 1 n = shG A S n
  | 0, _ => rfl
  | n + 1, h => by
    obtain ⟨⟨a0, a1⟩, s0, s1⟩ := h n (by omega)
    simp only [rowB, shG]
    rw [rowB_sh n (fun i hi => h i (by omega))]
    congr 1
    show totB [el2 (0 + cl A n 0) (0 + cl A n 1), el2 (cl S n 0) (cl S n 1)] 2 = _
    rw [Int.zero_add, Int.zero_add, totB2, addB_r rfl a0, addB_r rfl a1, addB_r a0 s0, addB_r a1 s1, Int.zero_add, Int.zero_add, a0, a1]; rfl
theorem postE_good {A S : List SV} (hA : ∀ i, i < A.length → rightB (cl A i 0) = true ∧ rightB (cl A i 1) = true) (hS : totB S S.length = true) (hl : A.length = S.length) (h64 : S.length ≤ 64) : postE A S = chkE (shG A S S.length) := by
  have e0 : stE (two A S) A.length 0 = 0 := by
    unfold stE
    rw [if_neg (by show ¬ ((A.length : Int) ≠ A.length); omega), if_pos]
    refine rowB_all (f := fun _ => true) _ (fun i hi => ?_) (fun _ _ => rfl)
    obtain ⟨a0, a1⟩ := hA i hi
    show totB [el2 0 0, el2 (cl A i 0) (cl A i 1)] 2 = _
    rw [totB2, addB_r rfl a0, addB_r rfl a1, Int.zero_add, Int.zero_add, a0, a1]; rfl
  have e1 : stE (two A S) A.length 1 = chkE (shG A S S.length) := by
    unfold stE
    rw [if_neg (by show ¬ ((S.length : Int) ≠ A.length); omega)]
    show (if rowB (two A S) 1 S.length = true then (0 : Int) else 10) = _
    rw [rowB_sh _ (fun i hi => ⟨hA i (by omega), tot_cl hS hi⟩)]
    rfl
  unfold postE sumE
  rw [if_neg (by omega), if_neg (by omega)]
  show feN (stE (two A S) A.length) 2 = _
  simp only [feN, e0, e1, if_true]
theorem addR_good {A S : List SV} (hl : A.length = S.length) (hp : postE A S = 0) : addR A S = plR A S S.length := by
  unfold addR plR
  rw [if_pos hp, hl]
  refine mkR_congr fun i _ => ⟨?_, ?_⟩
  · show (0 + cl A i 0) + cl S i 0 = _
    omega
  · show (0 + cl A i 1) + cl S i 1 = _
    omega
theorem addE_good {c t s x : Int} {A : List SV} {n k y p' c' t' s' x' h' : Int} {S : List SV} {n' : Int} {T : List SV} {y' : Int} (ha : totOK c t s x n k y A) (hc : chkY p' c' t' s' x' h' S n' T y' S.length = 0) (hl : A.length = S.length) (h64 : S.length ≤ 64) :
    addE c t s x A n k y c' t' s' x' S n' T y' = chkE (goodB c t s x A n k y c' t' s' x' S n' T y') ∧ (goodB c t s x A n k y c' t' s' x' S n' T y' = true → addR A S = plR A S S.length) := by
  obtain ⟨⟨a1, a2, a3, a4, a5, a6, a7⟩, aA⟩ := ha
  obtain ⟨_, _, z1, z2, z3, _, _⟩ := chkY_zero hc
  simp only [r7, r3, Bool.and_eq_true] at z2
  obtain ⟨⟨b1, b2, b3⟩, b4, b5, b6, b7⟩ := z2
  have e3 := postE_good aA z1 hl h64
  refine ⟨?_, fun g => addR_good hl ?_⟩
  · unfold addE bB goodB r7 r3
    rw [addB_r a1 b1, addB_r a2 b2, addB_r a3 b3, addB_r a4 b4, addB_r a5 b6, addB_r a6 (colT_right z3), addB_r a7 b7, e3, z3]
    generalize rightB (c + c') = q1
    generalize rightB (t + t') = q2
    generalize rightB (s + s') = q3
    generalize rightB (x + x') = q4
    generalize rightB (n + n') = q5
    generalize rightB (k + colS T 4 T.length) = q6
    generalize rightB (y + y') = q7
    generalize shG A S S.length = q8
    cases q1 <;> cases q2 <;> cases q3 <;> cases q4 <;> cases q5 <;> cases q6 <;> cases q7 <;> cases q8 <;> rfl
  · unfold goodB at g
    rw [Bool.and_eq_true] at g
    rw [e3, g.2]; rfl
theorem elCell_lt {Q : List SV} {x : SV} {j c : Nat} (h : j < Q.length) : elCell (Q ++ [x]) j c = elCell Q j c := by
  have e : (Q ++ [x]).getD j .any = Q.getD j .any := by simp [List.getD_eq_getElem?_getD, List.getElem?_append_left h]
  unfold elCell; rw [e]
theorem elCell_at {Q : List SV} {x : SV} {c : Nat} : elCell (Q ++ [x]) Q.length c = x.cells.getD c .any := by
  have e : (Q ++ [x]).getD Q.length .any = x := by simp [List.getD_eq_getElem?_getD]
  unfold elCell; rw [e]
theorem slv_last {Q : List SV} {L : List SV} {i c : Nat} : slv (Q ++ [slA L i]) ((Q.length : Int) + 1) c = ((slA L i).cells.getD c .any).toInt := by
  have e2 : (1 : Int) ≤ (Q.length : Int) + 1 ∧ (Q.length : Int) + 1 ≤ ((Q ++ [slA L i]).length : Int) := by rw [List.length_append]; simp; omega
  unfold slv cl
  rw [if_pos e2, show ((Q.length : Int) + 1 - 1).toNat = Q.length by omega, elCell_at]
theorem slvS_last {Q : List SV} {L : List SV} {i : Nat} : slvS (Q ++ [slA L i]) ((Q.length : Int) + 1) = slS L i := by
  have e2 : (1 : Int) ≤ (Q.length : Int) + 1 ∧ (Q.length : Int) + 1 ≤ ((Q ++ [slA L i]).length : Int) := by rw [List.length_append]; simp; omega
  unfold slvS
  rw [if_pos e2, show ((Q.length : Int) + 1 - 1).toNat = Q.length by omega]
  show (elCell _ _ 6).toSl = _
  rw [elCell_at]; rfl
theorem slvT_last {Q : List SV} {L : List SV} {i : Nat} : slvT (Q ++ [slA L i]) ((Q.length : Int) + 1) = slT L i := by
  have e2 : (1 : Int) ≤ (Q.length : Int) + 1 ∧ (Q.length : Int) + 1 ≤ ((Q ++ [slA L i]).length : Int) := by rw [List.length_append]; simp; omega
  unfold slvT
  rw [if_pos e2, show ((Q.length : Int) + 1 - 1).toNat = Q.length by omega]
  show (elCell _ _ 8).toSl = _
  rw [elCell_at]; rfl
theorem shG_get {A S : List SV} : ∀ {n i : Nat}, shG A S n = true → i < n → rightB (cl A i 0 + cl S i 0) = true ∧ rightB (cl A i 1 + cl S i 1) = true
  | 0, i, _, h => by omega
  | n + 1, i, hs, h => by
    simp only [shG, Bool.and_eq_true] at hs
    rcases Nat.lt_or_ge i n with h1 | h1
    · exact shG_get hs.1 h1
    · rw [show i = n by omega]; exact hs.2
theorem pst_A {n : Int} {Q : List SV} {a : Tot} {L : List SV} {i : Nat} (h : ¬ chkY (cl L i 0) (cl L i 1) (cl L i 2) (cl L i 3) (cl L i 4) (cl L i 5) (slS L i) (cl L i 7) (slT L i) (cl L i 9) n = 0) : pstE n Q a L i = chkY (cl L i 0) (cl L i 1) (cl L i 2) (cl L i 3) (cl L i 4) (cl L i 5) (slS L i) (cl L i 7) (slT L i) (cl L i 9) n := by
  unfold pstE tryE; rw [if_pos h]
theorem pst_B {n : Int} {Q : List SV} {a : Tot} {L : List SV} {i : Nat} (h : chkY (cl L i 0) (cl L i 1) (cl L i 2) (cl L i 3) (cl L i 4) (cl L i 5) (slS L i) (cl L i 7) (slT L i) (cl L i 9) n = 0) (hp : ¬ cl L i 0 = Q.length + 1) : pstE n Q a L i = 6 := by
  unfold pstE tryE; rw [if_neg (by omega), if_pos hp]
theorem pst_C {n : Int} {Q : List SV} {a : Tot} {L : List SV} {i : Nat} (h : chkY (cl L i 0) (cl L i 1) (cl L i 2) (cl L i 3) (cl L i 4) (cl L i 5) (slS L i) (cl L i 7) (slT L i) (cl L i 9) n = 0) (hp : cl L i 0 = Q.length + 1) : pstE n Q a L i = a.err L i := by
  unfold pstE tryE; rw [if_neg (by omega), if_neg (by omega)]; rfl
theorem wfL_len {ks : List CK} {l : List SV} (h : wfL ks l) : l.length ≤ 9223372036854775807 := by
  obtain ⟨L0, e, h1, _⟩ := h
  rw [e, List.length_map]
  simp only [maxLen] at h1
  omega
theorem sumE_out {n : Int} (h : n < 0 ∨ 64 < n) : sumE n [] = 1 := by unfold sumE; rw [if_pos h]
theorem sumE_in {n : Int} (h : ¬ n < 0) (h' : ¬ 64 < n) : sumE n [] = 0 := by unfold sumE; rw [if_neg (by omega)]; rfl
theorem sumE_ok {n : Int} (h : sumE n [] = 0) : ¬ n < 0 ∧ ¬ 64 < n := by
  constructor
  · intro g; rw [sumE_out (.inl g)] at h; cases h
  · intro g; rw [sumE_out (.inr g)] at h; cases h
theorem sumR_nil {n : Int} (h : sumE n [] = 0) : sumR n [] = mkR n.toNat (fun _ => 0) (fun _ => 0) := by unfold sumR; rw [if_pos h]; rfl
end Go.Rx

