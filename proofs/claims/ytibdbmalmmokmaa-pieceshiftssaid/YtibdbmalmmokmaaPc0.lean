/- Functions of straight pieces: the plain law. -/
import Derived.Test.YtibdbmalmmokmaaFw25
namespace Go.Rx
set_option linter.unusedSimpArgs false
set_option linter.unusedVariables false

/-- A piece: from where, its value there, its rate. -/
abbrev Ln := Int × Int × Int
def triE (v : SV) : Ln := ((v.cells.getD 0 .any).toInt, (v.cells.getD 1 .any).toInt, (v.cells.getD 2 .any).toInt)
def tri (l : List SV) : List Ln := l.map triE
def lnA (L : List Ln) (i : Nat) : Ln := L.getD i (0, 0, 0)
def lnV (a : Ln) : SV := .agg [.int .i64 a.1, .int .i64 a.2.1, .int .i64 a.2.2]
def lnSV (L : List Ln) : List SV := L.map lnV
def atT (a : Ln) (x : Int) : Int := a.2.1 + (x - a.1) * a.2.2
def endT (L : List Ln) (i : Nat) : Int := if i + 1 < L.length then (lnA L (i + 1)).1 - 1 else 10000000000
def bndB (x : Int) : Bool := decide (-4000000000000000 ≤ x) && decide (x ≤ 4000000000000000)
def fstE (L : List Ln) (i : Nat) : Int :=
  if (lnA L i).1 < 0 ∨ 10000000000 < (lnA L i).1 ∨ (i = 0 ∧ (lnA L i).1 ≠ 0) then 1
  else if 0 < i ∧ (lnA L i).1 ≤ (lnA L (i - 1)).1 then 6
  else if 40000 < (lnA L i).2.2 ∨ (lnA L i).2.2 < -40000 then 50 else 0
def eA (L : List Ln) : Nat → Int
  | 0 => 0
  | i + 1 => if eA L i = 0 then fstE L i else eA L i
def sndE (L : List Ln) (i : Nat) : Int := if bndB (lnA L i).2.1 = true ∧ bndB (atT (lnA L i) (endT L i)) = true then 0 else 10
def eB (L : List Ln) : Nat → Int
  | 0 => 0
  | i + 1 => if eB L i = 0 then sndE L i else eB L i
/-- What is wrong with a function; 0: nothing. -/
def chkT (L : List Ln) : Int := if L.length = 0 ∨ 256 < L.length then 2 else if eA L L.length = 0 then eB L L.length else eA L L.length
def cntLt : List Ln → Int → Nat
  | [], _ => 0
  | a :: r, x => if a.1 < x then cntLt r x + 1 else 0
def thereB (L : List Ln) (x : Int) : Bool := decide (cntLt L x < L.length) && decide ((lnA L (cntLt L x)).1 = x)
/-- In which piece a number is. -/
def fndT (L : List Ln) (x : Int) : Nat := if thereB L x = true then cntLt L x else cntLt L x - 1
def vAt (L : List Ln) (x : Int) : Int := atT (lnA L (fndT L x)) x
/-- The value at a number, by definition. -/
def atN (x : Int) : List Ln → Int → Int
  | [], o => o
  | a :: r, o => atN x r (if a.1 ≤ x then atT a x else o)
def risesT (L : List Ln) : Prop := ∀ i, i + 1 < L.length → (lnA L i).1 < (lnA L (i + 1)).1
/-- A piece whose values may be reckoned. -/
def okL (a : Ln) : Prop := (0 ≤ a.1 ∧ a.1 ≤ 10000000000) ∧ (-10000000000000000 ≤ a.2.1 ∧ a.2.1 ≤ 10000000000000000) ∧ (-80000 ≤ a.2.2 ∧ a.2.2 ≤ 80000)
/-- A piece of a function that stands. -/
def pOk (L : List Ln) (i : Nat) : Prop :=
  (0 ≤ (lnA L i).1 ∧ (lnA L i).1 ≤ 10000000000) ∧ (i = 0 → (lnA L i).1 = 0) ∧ (0 < i → (lnA L (i - 1)).1 < (lnA L i).1) ∧ (-40000 ≤ (lnA L i).2.2 ∧ (lnA L i).2.2 ≤ 40000) ∧
  (-4000000000000000 ≤ (lnA L i).2.1 ∧ (lnA L i).2.1 ≤ 4000000000000000) ∧ (-4000000000000000 ≤ atT (lnA L i) (endT L i) ∧ atT (lnA L i) (endT L i) ≤ 4000000000000000)
def stdT (L : List Ln) : Prop := 1 ≤ L.length ∧ L.length ≤ 256 ∧ ∀ i, i < L.length → pOk L i

theorem tri_len (l : List SV) : (tri l).length = l.length := by simp [tri]
theorem lnSV_len (L : List Ln) : (lnSV L).length = L.length := by simp [lnSV]
theorem tri_lnSV (L : List Ln) : tri (lnSV L) = L := by
  unfold tri lnSV
  rw [List.map_map]
  conv => rhs; rw [← List.map_id L]
  rfl
theorem lnA_tri (l : List SV) (i : Nat) : lnA (tri l) i = triE (l.getD i .any) := by
  unfold lnA tri
  by_cases h : i < l.length
  · rw [getD_map triE l i .any _ h]
  · have e1 : l.getD i .any = .any := by simp [List.getD_eq_getElem?_getD, List.getElem?_eq_none (Nat.le_of_not_lt h)]
    rw [e1]
    simp [List.getD_eq_getElem?_getD, List.getElem?_eq_none (Nat.le_of_not_lt h)]
    rfl
theorem cell0 (l : List SV) (i : Nat) : (elCell l i 0).toInt = (lnA (tri l) i).1 := by rw [lnA_tri]; rfl
theorem cell1 (l : List SV) (i : Nat) : (elCell l i 1).toInt = (lnA (tri l) i).2.1 := by rw [lnA_tri]; rfl
theorem cell2 (l : List SV) (i : Nat) : (elCell l i 2).toInt = (lnA (tri l) i).2.2 := by rw [lnA_tri]; rfl
theorem tri_app (l m : List SV) : tri (l ++ m) = tri l ++ tri m := by simp [tri]
theorem lnSV_app (L M : List Ln) : lnSV (L ++ M) = lnSV L ++ lnSV M := by simp [lnSV]
theorem lnA_app1 {L M : List Ln} {i : Nat} (h : i < L.length) : lnA (L ++ M) i = lnA L i := by simp [lnA, List.getD_eq_getElem?_getD, List.getElem?_append_left h]
theorem lnA_app2 {L M : List Ln} {i : Nat} (h : L.length ≤ i) : lnA (L ++ M) i = lnA M (i - L.length) := by simp [lnA, List.getD_eq_getElem?_getD, List.getElem?_append_right h]
theorem lnA_mem {L : List Ln} {i : Nat} (h : i < L.length) : lnA L i ∈ L := by
  simp only [lnA, List.getD_eq_getElem?_getD, List.getElem?_eq_getElem h, Option.getD_some]
  exact List.getElem_mem h
theorem mem_lnA {L : List Ln} {a : Ln} (h : a ∈ L) : ∃ i, i < L.length ∧ lnA L i = a := by
  obtain ⟨i, hi, e⟩ := List.getElem_of_mem h
  exact ⟨i, hi, by simp [lnA, List.getD_eq_getElem?_getD, List.getElem?_eq_getElem hi, e]⟩
theorem lnA_cons0 (a : Ln) (r : List Ln) : lnA (a :: r) 0 = a := rfl
theorem lnA_consS (a : Ln) (r : List Ln) (i : Nat) : lnA (a :: r) (i + 1) = lnA r i := by simp [lnA]
theorem take_lnA {L : List Ln} {i : Nat} (h : i < L.length) : L.take (i + 1) = L.take i ++ [lnA L i] := by
  rw [List.take_add_one]
  simp [lnA, List.getD_eq_getElem?_getD, List.getElem?_eq_getElem h]

theorem bndB_iff {x : Int} : bndB x = true ↔ -4000000000000000 ≤ x ∧ x ≤ 4000000000000000 := by simp [bndB]
theorem bndB_no {x : Int} : bndB x = false ↔ ¬ (-4000000000000000 ≤ x ∧ x ≤ 4000000000000000) := by
  rw [← bndB_iff]; cases bndB x <;> simp
theorem eA_stay {L : List Ln} {i : Nat} (h : eA L i ≠ 0) : ∀ j, i ≤ j → eA L j = eA L i
  | 0, hj => by rw [Nat.le_zero.1 hj]
  | j + 1, hj => by
    rcases Nat.lt_or_ge i (j + 1) with h1 | h1
    · have := eA_stay h j (by omega)
      simp only [eA]
      rw [if_neg (by rw [this]; exact h), this]
    · rw [show i = j + 1 by omega]
theorem eB_stay {L : List Ln} {i : Nat} (h : eB L i ≠ 0) : ∀ j, i ≤ j → eB L j = eB L i
  | 0, hj => by rw [Nat.le_zero.1 hj]
  | j + 1, hj => by
    rcases Nat.lt_or_ge i (j + 1) with h1 | h1
    · have := eB_stay h j (by omega)
      simp only [eB]
      rw [if_neg (by rw [this]; exact h), this]
    · rw [show i = j + 1 by omega]
theorem eA_back {L : List Ln} {i j : Nat} (h : eA L j = 0) (hi : i ≤ j) : eA L i = 0 := by
  apply Classical.byContradiction
  intro hc
  have := eA_stay hc j hi
  rw [h] at this
  exact hc this.symm
theorem eB_back {L : List Ln} {i j : Nat} (h : eB L j = 0) (hi : i ≤ j) : eB L i = 0 := by
  apply Classical.byContradiction
  intro hc
  have := eB_stay hc j hi
  rw [h] at this
  exact hc this.symm
theorem eA_zero {L : List Ln} : ∀ n, eA L n = 0 ↔ ∀ i, i < n → fstE L i = 0
  | 0 => by simp [eA]
  | n + 1 => by
    simp only [eA]
    constructor
    · intro h i hi
      split at h
      · rename_i h0
        rcases Nat.lt_or_ge i n with h1 | h1
        · exact (eA_zero n).1 h0 i h1
        · rw [show i = n by omega]; exact h
      · rename_i h0; exact (h0 h).elim
    · intro h
      rw [if_pos ((eA_zero n).2 fun i hi => h i (by omega))]
      exact h n (by omega)
theorem eB_zero {L : List Ln} : ∀ n, eB L n = 0 ↔ ∀ i, i < n → sndE L i = 0
  | 0 => by simp [eB]
  | n + 1 => by
    simp only [eB]
    constructor
    · intro h i hi
      split at h
      · rename_i h0
        rcases Nat.lt_or_ge i n with h1 | h1
        · exact (eB_zero n).1 h0 i h1
        · rw [show i = n by omega]; exact h
      · rename_i h0; exact (h0 h).elim
    · intro h
      rw [if_pos ((eB_zero n).2 fun i hi => h i (by omega))]
      exact h n (by omega)
theorem fstE_zero {L : List Ln} {i : Nat} : fstE L i = 0 ↔ (0 ≤ (lnA L i).1 ∧ (lnA L i).1 ≤ 10000000000) ∧ (i = 0 → (lnA L i).1 = 0) ∧ (0 < i → (lnA L (i - 1)).1 < (lnA L i).1) ∧ (-40000 ≤ (lnA L i).2.2 ∧ (lnA L i).2.2 ≤ 40000) := by
  unfold fstE
  constructor
  · intro h
    split at h
    · omega
    · split at h
      · omega
      · split at h <;> omega
  · intro h
    rw [if_neg (by omega), if_neg (by omega), if_neg (by omega)]
theorem sndE_zero {L : List Ln} {i : Nat} : sndE L i = 0 ↔ (-4000000000000000 ≤ (lnA L i).2.1 ∧ (lnA L i).2.1 ≤ 4000000000000000) ∧ (-4000000000000000 ≤ atT (lnA L i) (endT L i) ∧ atT (lnA L i) (endT L i) ≤ 4000000000000000) := by
  unfold sndE
  rw [← bndB_iff, ← bndB_iff]
  constructor
  · intro h
    split at h
    · assumption
    · omega
  · intro h
    rw [if_pos h]
/-- A function stands. -/
theorem chk_ok {L : List Ln} : chkT L = 0 ↔ stdT L := by
  unfold chkT
  constructor
  · intro h
    split at h
    · omega
    · rename_i hl
      split at h
      · rename_i h0
        refine ⟨by omega, by omega, fun i hi => ?_⟩
        have a := fstE_zero.1 ((eA_zero _).1 h0 i hi)
        have b := sndE_zero.1 ((eB_zero _).1 h i hi)
        exact ⟨a.1, a.2.1, a.2.2.1, a.2.2.2, b.1, b.2⟩
      · rename_i h0; exact (h0 h).elim
  · rintro ⟨h1, h2, h3⟩
    rw [if_neg (by omega), if_pos ((eA_zero _).2 fun i hi => fstE_zero.2 ⟨(h3 i hi).1, (h3 i hi).2.1, (h3 i hi).2.2.1, (h3 i hi).2.2.2.1⟩)]
    exact (eB_zero _).2 fun i hi => sndE_zero.2 (h3 i hi).2.2.2.2
/-- What a piece tells of all. -/
theorem chk_at {L : List Ln} {i : Nat} (hi : i < L.length) (hl : L.length ≤ 256) (h : eA L i = 0) :
    ((lnA L i).1 < 0 ∨ 10000000000 < (lnA L i).1 ∨ (i = 0 ∧ (lnA L i).1 ≠ 0) → chkT L = 1) ∧
    (¬ ((lnA L i).1 < 0 ∨ 10000000000 < (lnA L i).1 ∨ (i = 0 ∧ (lnA L i).1 ≠ 0)) → (0 < i ∧ (lnA L i).1 ≤ (lnA L (i - 1)).1 → chkT L = 6) ∧
      (¬ (0 < i ∧ (lnA L i).1 ≤ (lnA L (i - 1)).1) → (40000 < (lnA L i).2.2 ∨ (lnA L i).2.2 < -40000 → chkT L = 50) ∧
        (¬ (40000 < (lnA L i).2.2 ∨ (lnA L i).2.2 < -40000) → eA L (i + 1) = 0))) := by
  have nx : eA L (i + 1) = fstE L i := by simp only [eA]; rw [if_pos h]
  have up : fstE L i ≠ 0 → chkT L = fstE L i := fun hne => by
    have e := eA_stay (i := i + 1) (by rw [nx]; exact hne) L.length (by omega)
    unfold chkT
    rw [if_neg (by omega), if_neg (by rw [e, nx]; exact hne), e, nx]
  refine ⟨fun c => ?_, fun c => ⟨fun d => ?_, fun d => ⟨fun e => ?_, fun e => ?_⟩⟩⟩
  · have : fstE L i = 1 := by unfold fstE; rw [if_pos c]
    rw [up (by omega), this]
  · have : fstE L i = 6 := by unfold fstE; rw [if_neg c, if_pos d]
    rw [up (by omega), this]
  · have : fstE L i = 50 := by unfold fstE; rw [if_neg c, if_neg d, if_pos e]
    rw [up (by omega), this]
  · rw [nx]; unfold fstE; rw [if_neg c, if_neg d, if_neg e]
theorem chk_at2 {L : List Ln} {i : Nat} (hi : i < L.length) (hl : L.length ≤ 256) (h : eA L L.length = 0) (hb : eB L i = 0) :
    (bndB (lnA L i).2.1 = false → chkT L = 10) ∧ (bndB (atT (lnA L i) (endT L i)) = false → chkT L = 10) ∧
    (bndB (lnA L i).2.1 = true → bndB (atT (lnA L i) (endT L i)) = true → eB L (i + 1) = 0) := by
  have nx : eB L (i + 1) = sndE L i := by simp only [eB]; rw [if_pos hb]
  have up : sndE L i ≠ 0 → chkT L = sndE L i := fun hne => by
    have e := eB_stay (i := i + 1) (by rw [nx]; exact hne) L.length (by omega)
    unfold chkT
    rw [if_neg (by omega), if_pos h, e, nx]
  refine ⟨fun c => ?_, fun c => ?_, fun c d => ?_⟩
  · have : sndE L i = 10 := by unfold sndE; rw [if_neg (by rw [c]; simp)]
    rw [up (by omega), this]
  · have : sndE L i = 10 := by unfold sndE; rw [if_neg (by rw [c]; simp)]
    rw [up (by omega), this]
  · rw [nx]; unfold sndE; rw [if_pos ⟨c, d⟩]
theorem eA_at {L : List Ln} (h : eA L L.length = 0) {i : Nat} (hi : i < L.length) : (0 ≤ (lnA L i).1 ∧ (lnA L i).1 ≤ 10000000000) ∧ (i = 0 → (lnA L i).1 = 0) ∧ (0 < i → (lnA L (i - 1)).1 < (lnA L i).1) ∧ (-40000 ≤ (lnA L i).2.2 ∧ (lnA L i).2.2 ≤ 40000) :=
  fstE_zero.1 ((eA_zero _).1 h i hi)
theorem end_in {L : List Ln} (h : eA L L.length = 0) {i : Nat} (hi : i < L.length) : (lnA L i).1 ≤ endT L i ∧ endT L i ≤ 10000000000 := by
  have a := eA_at h hi
  unfold endT
  split
  · rename_i h1
    have b := eA_at h h1
    have := b.2.2.1 (by omega)
    rw [Nat.add_sub_cancel] at this
    omega
  · omega

/-- A product's bounds. -/
theorem mul_in {a b A B : Int} (h1 : -A ≤ a) (h2 : a ≤ A) (h3 : -B ≤ b) (h4 : b ≤ B) : -(A * B) ≤ a * b ∧ a * b ≤ A * B := by
  have hA : 0 ≤ A := by omega
  have hB : 0 ≤ B := by omega
  have e1 : 0 ≤ (A - a) * (B + b) := Int.mul_nonneg (by omega) (by omega)
  have e2 : 0 ≤ (A + a) * (B - b) := Int.mul_nonneg (by omega) (by omega)
  have e3 : 0 ≤ (A - a) * (B - b) := Int.mul_nonneg (by omega) (by omega)
  have e4 : 0 ≤ (A + a) * (B + b) := Int.mul_nonneg (by omega) (by omega)
  simp only [Int.mul_add, Int.add_mul, Int.mul_sub, Int.sub_mul] at e1 e2 e3 e4
  omega
theorem at_in {a : Ln} {x : Int} (h : okL a) (h1 : -1 ≤ x) (h2 : x ≤ 10000000000) : (-10000000001 ≤ x - a.1 ∧ x - a.1 ≤ 10000000001) ∧ (-800000000080000 ≤ (x - a.1) * a.2.2 ∧ (x - a.1) * a.2.2 ≤ 800000000080000) ∧ (-10800000000080000 ≤ atT a x ∧ atT a x ≤ 10800000000080000) := by
  obtain ⟨⟨a1, a2⟩, ⟨a3, a4⟩, a5, a6⟩ := h
  have := mul_in (a := x - a.1) (b := a.2.2) (A := 10000000001) (B := 80000) (by omega) (by omega) (by omega) (by omega)
  unfold atT
  omega

theorem cnt_le : ∀ (L : List Ln) (x : Int), cntLt L x ≤ L.length
  | [], _ => Nat.le_refl _
  | a :: r, x => by
    have := cnt_le r x
    unfold cntLt
    split <;> simp only [List.length_cons] <;> omega
theorem cnt_lt : ∀ (L : List Ln) (x : Int) (i : Nat), i < cntLt L x → (lnA L i).1 < x
  | [], _, i, h => by simp [cntLt] at h
  | a :: r, x, i, h => by
    unfold cntLt at h
    split at h
    · cases i with
      | zero => assumption
      | succ i => rw [lnA_consS]; exact cnt_lt r x i (by omega)
    · omega
theorem cnt_ge : ∀ (L : List Ln) (x : Int), cntLt L x < L.length → x ≤ (lnA L (cntLt L x)).1
  | [], _, h => by simp [cntLt] at h
  | a :: r, x, h => by
    unfold cntLt at h ⊢
    split
    · rename_i h0
      rw [if_pos h0] at h
      rw [lnA_consS]
      exact cnt_ge r x (by simpa using h)
    · rename_i h0
      rw [lnA_cons0]
      omega
theorem cnt_eq {L : List Ln} {x : Int} {i : Nat} (hi : i ≤ L.length) (h1 : ∀ k, k < i → (lnA L k).1 < x) (h2 : i < L.length → x ≤ (lnA L i).1) : i = cntLt L x := by
  rcases Nat.lt_trichotomy i (cntLt L x) with h | h | h
  · have a := cnt_lt L x i h
    have b := h2 (by have := cnt_le L x; omega)
    omega
  · exact h
  · have a := cnt_ge L x (by omega)
    have b := h1 _ h
    omega
theorem rises_lt {L : List Ln} (h : risesT L) : ∀ {j i : Nat}, i < j → j < L.length → (lnA L i).1 < (lnA L j).1
  | 0, i, hi, _ => by omega
  | j + 1, i, hi, hj => by
    have a := h j hj
    rcases Nat.lt_or_ge i j with h1 | h1
    · have := rises_lt h h1 (by omega)
      omega
    · rw [show i = j by omega]; exact a
theorem stdT_rises {L : List Ln} (h : stdT L) : risesT L := fun i hi => by
  have := (h.2.2 (i + 1) hi).2.2.1 (by omega)
  rwa [Nat.add_sub_cancel] at this
/-- The piece found is that in which the number is. -/
theorem fnd_in {L : List Ln} {x : Int} (h : risesT L) (h1 : 1 ≤ L.length) (h0 : (lnA L 0).1 ≤ x) : fndT L x < L.length ∧ (lnA L (fndT L x)).1 ≤ x ∧ (fndT L x + 1 < L.length → x < (lnA L (fndT L x + 1)).1) := by
  have hle := cnt_le L x
  unfold fndT
  split
  · rename_i ht
    simp only [thereB, Bool.and_eq_true, decide_eq_true_eq] at ht
    refine ⟨ht.1, by omega, fun h2 => ?_⟩
    have := h _ h2
    omega
  · rename_i ht
    simp only [thereB, Bool.and_eq_true, decide_eq_true_eq, not_and] at ht
    have hp : 0 < cntLt L x := by
      rcases Nat.eq_zero_or_pos (cntLt L x) with h2 | h2
      · have a := cnt_ge L x (by omega)
        have b := ht (by omega)
        rw [h2] at a b
        omega
      · exact h2
    have a := cnt_lt L x (cntLt L x - 1) (by omega)
    refine ⟨by omega, by omega, fun h2 => ?_⟩
    rw [show cntLt L x - 1 + 1 = cntLt L x by omega] at h2 ⊢
    have b := cnt_ge L x h2
    have c := ht h2
    omega
theorem fnd_eq {L : List Ln} {x : Int} (h : risesT L) (h0 : (lnA L 0).1 ≤ x) {i : Nat} (hi : i < L.length) (h1 : (lnA L i).1 ≤ x) (h2 : i + 1 < L.length → x < (lnA L (i + 1)).1) : fndT L x = i := by
  obtain ⟨f1, f2, f3⟩ := fnd_in h (by omega) h0
  rcases Nat.lt_trichotomy (fndT L x) i with h4 | h4 | h4
  · have a := f3 (by omega)
    rcases Nat.lt_or_ge (fndT L x + 1) i with h5 | h5
    · have := rises_lt h h5 hi; omega
    · rw [show fndT L x + 1 = i by omega] at a; omega
  · exact h4
  · have a := h2 (by omega)
    rcases Nat.lt_or_ge (i + 1) (fndT L x) with h5 | h5
    · have := rises_lt h h5 f1; omega
    · rw [show fndT L x = i + 1 by omega] at f2; omega
theorem atN_far {x : Int} : ∀ (L : List Ln) (o : Int), (∀ a, a ∈ L → x < a.1) → atN x L o = o
  | [], _, _ => rfl
  | a :: r, o, h => by
    have := h a (List.mem_cons_self ..)
    rw [atN, if_neg (by omega)]
    exact atN_far r o fun b hb => h b (List.mem_cons_of_mem _ hb)
theorem atN_app {x : Int} : ∀ (L M : List Ln) (o : Int), atN x (L ++ M) o = atN x M (atN x L o)
  | [], _, _ => rfl
  | a :: r, M, o => by rw [List.cons_append, atN, atN, atN_app r M]
theorem atN_at {L : List Ln} {x : Int} (h : risesT L) (o : Int) {i : Nat} (hi : i < L.length) (h1 : (lnA L i).1 ≤ x) (h2 : i + 1 < L.length → x < (lnA L (i + 1)).1) : atN x L o = atT (lnA L i) x := by
  have e : L = L.take (i + 1) ++ L.drop (i + 1) := (List.take_append_drop _ _).symm
  have e2 := take_lnA hi
  conv => lhs; rw [e]
  rw [atN_app, atN_far, e2, atN_app]
  · rw [atN, atN, if_pos h1]
  · intro a ha
    obtain ⟨j, hj, rfl⟩ := mem_lnA ha
    rw [List.length_drop] at hj
    have e3 : lnA (L.drop (i + 1)) j = lnA L (i + 1 + j) := by simp [lnA, List.getD_eq_getElem?_getD]
    rw [e3]
    have a := h2 (by omega)
    rcases Nat.eq_zero_or_pos j with h5 | h5
    · subst h5; exact a
    · have := rises_lt h (i := i + 1) (j := i + 1 + j) (by omega) (by omega); omega
theorem atN_v {L : List Ln} {x : Int} (h : risesT L) (o : Int) (h1 : 1 ≤ L.length) (h0 : (lnA L 0).1 ≤ x) : atN x L o = vAt L x := by
  obtain ⟨f1, f2, f3⟩ := fnd_in h h1 h0
  exact atN_at h o f1 f2 f3
end Go.Rx
