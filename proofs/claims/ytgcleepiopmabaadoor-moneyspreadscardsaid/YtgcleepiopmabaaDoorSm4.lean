/- The library's stable sort of at most 64: sorted, and stable. -/
import Derived.Test.YtgcleepiopmabaaDoorSm3
import Derived.Test.YtgcleepiopmabaaDoorSs4
namespace Go.Proofs
open Go.Shelf Go.RowKit Go.Lib Go.Sort
set_option linter.unusedSimpArgs false
set_option linter.unusedVariables false
set_option linter.unusedSectionVars false
variable {α : Type} [Inhabited α] {r : α → Int} {ix : α → Nat}

theorem cut_perm {t n a b : Nat} {d d' : Array α} (h : CrossS ix 0 t n d) (hp : PermIn a b d d') (hb : b ≤ n) (hn : n ≤ d.size) (ht : t ≤ a ∨ b ≤ t) : CrossS ix 0 t n d' := fun i j hi hit hj hjn => by
  rcases ht with ht | ht
  · rw [hp.2.1 i (.inl (by omega))]
    by_cases hc : a ≤ j ∧ j < b
    · exact permIn_all d d' a b (fun y => ix d[i]! < ix y) (by omega) hp (fun q hq hq2 => h i q hi hit (by omega) (by omega)) j hc.1 hc.2
    · rw [hp.2.1 j (by omega)]; exact h i j hi hit hj hjn
  · rw [hp.2.1 j (.inr (by omega))]
    by_cases hc : a ≤ i ∧ i < b
    · exact permIn_all d d' a b (fun x => ix x < ix d[j]!) (by omega) hp (fun q hq hq2 => h q j (Nat.zero_le _) (by omega) hj hjn) i hc.1 hc.2
    · rw [hp.2.1 i (by omega)]; exact h i j hi hit hj hjn
theorem sort_perm {x y a b : Nat} {d d' : Array α} (h : SortS r ix x y d) (hp : PermIn a b d d') (ht : y ≤ a ∨ b ≤ x) : SortS r ix x y d' := h.congr fun k hk hk2 => hp.2.1 k (by omega)
/-- .. as a test. -/
def ltT (r : α → Int) (ix : α → Nat) (x y : α) : Bool := decide (r y < r x ∨ (r x = r y ∧ ix x < ix y))
theorem swoT : SWO (ltT r ix) where
  irrefl x := by unfold ltT; rw [decide_eq_false_iff_not]; omega
  trans x y z h1 h2 := by unfold ltT at *; rw [decide_eq_true_eq] at *; omega
  ntrans x y z h1 h2 := by unfold ltT at *; rw [decide_eq_false_iff_not] at *; omega
theorem insInner_same {cf : α → α → Int} (hcf : ∀ x y, cf x y < 0 ↔ r y < r x) (a : Nat) : ∀ (j : Nat) (d : Array α), j < d.size → (∀ p, a ≤ p → p < j → ix d[p]! < ix d[j]!) → insInner (ltOf cf) a j d = insInner (ltT r ix) a j d
  | 0, d, _, _ => rfl
  | j + 1, d, hj, h => by
    unfold insInner
    by_cases hja : j + 1 > a
    · have h1 := h j (by omega) (by omega)
      have e : ltOf cf d[j + 1]! d[j]! = ltT r ix d[j + 1]! d[j]! := by
        unfold ltOf ltT
        rw [decide_eq_decide, hcf]; omega
      rw [e]
      split
      · exact insInner_same hcf a j _ (by rw [swp_size]; omega) (fun p hp hp2 => by rw [swp_get d hj (by omega) p, swp_get d hj (by omega) j, if_neg (by omega), if_neg (by omega), if_pos rfl]; exact h p hp (by omega))
      · rfl
    · simp [hja]
theorem insInner_perm {lt : α → α → Bool} (a i : Nat) : ∀ (j : Nat) (d : Array α), a ≤ j → j ≤ i → i < d.size → PermIn a (i + 1) d (insInner lt a j d)
  | 0, d, _, _, _ => by unfold insInner; exact permIn_refl _ _ _
  | j + 1, d, h1, h2, h3 => by
    unfold insInner
    split
    · rename_i hc
      simp only [Bool.and_eq_true, decide_eq_true_eq] at hc
      exact permIn_trans _ _ _ _ _ (swp_permIn d a (i + 1) (j + 1) j (by omega) (by omega) (by omega) (by omega) (by omega)) (insInner_perm a i j _ (by omega) (by omega) (by rw [swp_size]; omega))
    · exact permIn_refl _ _ _
theorem insOuter_same {cf : α → α → Int} (hcf : ∀ x y, cf x y < 0 ↔ r y < r x) (a b : Nat) : ∀ (n i : Nat) (d : Array α), b - i = n → a < i → b ≤ d.size → (∀ p q, a ≤ p → p < q → i ≤ q → q < b → ix d[p]! < ix d[q]!) → insOuter (ltOf cf) a b i d = insOuter (ltT r ix) a b i d
  | 0, i, d, hn, _, _, _ => by
    rw [insOuter, if_neg (by omega)]
    conv => rhs; rw [insOuter, if_neg (by omega)]
  | n + 1, i, d, hn, hai, hb, h => by
    rw [insOuter]
    conv => rhs; rw [insOuter]
    rw [if_pos (by omega), if_pos (by omega), insInner_same hcf a i d (by omega) (fun p hp hp2 => h p i hp hp2 (Nat.le_refl _) (by omega))]
    have hp := insInner_perm (lt := ltT r ix) a i i d (by omega) (Nat.le_refl _) (by omega)
    refine insOuter_same hcf a b n (i + 1) _ (by omega) (by omega) (by rw [hp.1]; exact hb) (fun p q hpa hpq hq hqb => ?_)
    rw [hp.2.1 q (.inr hq)]
    by_cases hc : p < i + 1
    · exact permIn_all d _ a (i + 1) (fun x => ix x < ix d[q]!) (by omega) hp (fun k hk hk2 => h k q hk (by omega) (by omega) hqb) p hpa hc
    · rw [hp.2.1 p (.inr (by omega))]; exact h p q hpa hpq (by omega) hqb
/-- What stands in its order is sorted so that it stays in it where nothing tells it apart. -/
theorem ins_ok {cf : α → α → Int} (hcf : ∀ x y, cf x y < 0 ↔ r y < r x) {a b : Nat} {d : Array α} (hab : a ≤ b) (hb : b ≤ d.size) (h : ∀ p q, a ≤ p → p < q → q < b → ix d[p]! < ix d[q]!) :
    PermIn a b d (Sort.insertionSort (ltOf cf) d a b) ∧ SortS r ix a b (Sort.insertionSort (ltOf cf) d a b) := by
  have e : Sort.insertionSort (ltOf cf) d a b = Sort.insertionSort (ltT r ix) d a b := by
    unfold Sort.insertionSort
    exact insOuter_same hcf a b _ (a + 1) d rfl (by omega) hb (fun p q hp hpq _ hq => h p q hp hpq hq)
  rw [e]
  obtain ⟨h1, h2⟩ := insertionSort_holds (swoT (r := r) (ix := ix)) d a b hab hb
  generalize Sort.insertionSort (ltT r ix) d a b = D at h1 h2 ⊢
  refine ⟨h1, fun i j hi hij hj => ?_⟩
  have := h2 i j hi hij hj
  unfold ltT at this
  rw [decide_eq_false_iff_not] at this
  unfold lt2; omega
/-- The blocks of s, each sorted, one behind the other. -/
def PhS (r : α → Int) (ix : α → Nat) (s n : Nat) (d : Array α) : Prop := (∀ x, x % s = 0 → SortS r ix x (min (x + s) n) d) ∧ ∀ t, t % s = 0 → CrossS ix 0 t n d
/-- The first blocks are sorted, the others as they were. -/
def Ph0 (r : α → Int) (ix : α → Nat) (a n : Nat) (d : Array α) : Prop := (∀ x, x % 20 = 0 → x + 20 ≤ a → SortS r ix x (x + 20) d) ∧ ∀ t, (t % 20 = 0 ∨ a ≤ t) → CrossS ix 0 t n d
/-- The first pairs of blocks are merged. -/
def Ph1 (r : α → Int) (ix : α → Nat) (s a n : Nat) (d : Array α) : Prop := (∀ x, x % (2 * s) = 0 → x + 2 * s ≤ a → SortS r ix x (x + 2 * s) d) ∧ (∀ x, x % s = 0 → a ≤ x → SortS r ix x (min (x + s) n) d) ∧ ∀ t, (t % (2 * s) = 0 ∨ (t % s = 0 ∧ a ≤ t)) → CrossS ix 0 t n d
theorem ph0_ins {cf : α → α → Int} (hcf : ∀ x y, cf x y < 0 ↔ r y < r x) {a b n : Nat} {d : Array α} (h : Ph0 r ix a n d) (hb : b ≤ n) (hab : a ≤ b) (hn : n ≤ d.size) : PermIn a b d (Sort.insertionSort (ltOf cf) d a b) ∧ SortS r ix a b (Sort.insertionSort (ltOf cf) d a b) :=
  ins_ok hcf hab (by omega) (fun p q hp hpq hq => h.2 q (.inr (by omega)) p q (Nat.zero_le _) hpq (Nat.le_refl _) (by omega))
theorem ph0_next {a n : Nat} {d d' : Array α} (h : Ph0 r ix a n d) (ha : a % 20 = 0) (hb : a + 20 ≤ n) (hn : n ≤ d.size) (hp : PermIn a (a + 20) d d') (hs : SortS r ix a (a + 20) d') : Ph0 r ix (a + 20) n d' := by
  refine ⟨fun x hx hx2 => ?_, fun t ht => ?_⟩
  · by_cases hc : x = a
    · subst hc; exact hs
    · exact sort_perm (h.1 x hx (by omega)) hp (by omega)
  · exact cut_perm (h.2 t (by omega)) hp (by omega) hn (by omega)
theorem ph0_end {a n : Nat} {d d' : Array α} (h : Ph0 r ix a n d) (ha : a % 20 = 0) (han : a ≤ n) (hb : n < a + 20) (hn : n ≤ d.size) (hp : PermIn a n d d') (hs : SortS r ix a n d') : PhS r ix 20 n d' := by
  refine ⟨fun x hx => ?_, fun t ht => ?_⟩
  · by_cases hc : x = a
    · subst hc; rw [Nat.min_eq_right (by omega)]; exact hs
    · by_cases hc2 : x < a
      · rw [Nat.min_eq_left (by omega)]; exact sort_perm (h.1 x hx (by omega)) hp (by omega)
      · exact fun i j hi hij hj => by rw [Nat.min_eq_right (by omega)] at hj; omega
  · by_cases hc : t ≤ a
    · exact cut_perm (h.2 t (by omega)) hp (Nat.le_refl _) hn (.inl hc)
    · exact fun i j hi hit hj hjn => by omega
theorem ph1_start {s n : Nat} {d : Array α} (hs : s = 20 ∨ s = 40) (h : PhS r ix s n d) : Ph1 r ix s 0 n d := by
  rcases hs with rfl | rfl
  · exact ⟨fun x _ hx => by omega, fun x hx _ => h.1 x hx, fun t ht => h.2 t (by omega)⟩
  · exact ⟨fun x _ hx => by omega, fun x hx _ => h.1 x hx, fun t ht => h.2 t (by omega)⟩
theorem ph1_next {s a n : Nat} {d d' : Array α} (hs : s = 20 ∨ s = 40) (h : Ph1 r ix s a n d) (ha : a % (2 * s) = 0) (hb : a + 2 * s ≤ n) (hn : n ≤ d.size) (hm : MrgS r ix a (a + s) (a + 2 * s) d d') : Ph1 r ix s (a + 2 * s) n d' := by
  obtain ⟨h1, h2, h3⟩ := h
  have hL := h2 a (by rcases hs with rfl | rfl <;> omega) (Nat.le_refl _)
  have hR := h2 (a + s) (by rcases hs with rfl | rfl <;> omega) (Nat.le_add_right _ _)
  rw [Nat.min_eq_left (by omega)] at hL
  rw [Nat.min_eq_left (by omega), show a + s + s = a + 2 * s by omega] at hR
  have hX : CrossS ix a (a + s) (a + 2 * s) d := fun i j hi hi2 hj hj2 => h3 (a + s) (.inr ⟨by rcases hs with rfl | rfl <;> omega, by omega⟩) i j (Nat.zero_le _) hi2 hj (by omega)
  have hS := hm.2 hL hR hX
  refine ⟨fun x hx hx2 => ?_, fun x hx hx2 => ?_, fun t ht => ?_⟩
  · by_cases hc : x = a
    · subst hc; exact hS
    · have hlt : x + 2 * s ≤ a := by rcases hs with rfl | rfl <;> omega
      exact sort_perm (h1 x hx hlt) hm.1 (.inl hlt)
  · exact sort_perm (h2 x hx (by omega)) hm.1 (.inr hx2)
  · have hlt : t ≤ a ∨ a + 2 * s ≤ t := by rcases hs with rfl | rfl <;> omega
    exact cut_perm (h3 t (by rcases hs with rfl | rfl <;> omega)) hm.1 (by omega) hn hlt
theorem ph1_end {s a n : Nat} {d d' : Array α} (hs : s = 20 ∨ s = 40) (h : Ph1 r ix s a n d) (ha : a % (2 * s) = 0) (han : a ≤ n) (hb : n < a + 2 * s) (hn : n ≤ d.size) (hm : (d' = d ∧ n ≤ a + s) ∨ (a + s < n ∧ MrgS r ix a (a + s) n d d')) : PhS r ix (s * 2) n d' := by
  obtain ⟨h1, h2, h3⟩ := h
  have hL := h2 a (by rcases hs with rfl | rfl <;> omega) (Nat.le_refl _)
  rcases hm with ⟨rfl, hm⟩ | ⟨hm0, hm⟩
  · rw [Nat.min_eq_right (by omega)] at hL
    refine ⟨fun x hx => ?_, fun t ht => h3 t (by rcases hs with rfl | rfl <;> omega)⟩
    by_cases hc : x = a
    · subst hc; rw [Nat.min_eq_right (by omega)]; exact hL
    · by_cases hc2 : x < a
      · have hlt : x + 2 * s ≤ a := by rcases hs with rfl | rfl <;> omega
        rw [Nat.min_eq_left (by omega), Nat.mul_comm s 2]; exact h1 x (by rcases hs with rfl | rfl <;> omega) hlt
      · have hlt : a + 2 * s ≤ x := by rcases hs with rfl | rfl <;> omega
        exact fun i j hi hij hj => by rw [Nat.min_eq_right (by omega)] at hj; omega
  · have hR := h2 (a + s) (by rcases hs with rfl | rfl <;> omega) (Nat.le_add_right _ _)
    rw [Nat.min_eq_left (by omega)] at hL
    rw [Nat.min_eq_right (by omega)] at hR
    have hX : CrossS ix a (a + s) n d := fun i j hi hi2 hj hj2 => h3 (a + s) (.inr ⟨by rcases hs with rfl | rfl <;> omega, by omega⟩) i j (Nat.zero_le _) hi2 hj hj2
    have hS := hm.2 hL hR hX
    refine ⟨fun x hx => ?_, fun t ht => ?_⟩
    · by_cases hc : x = a
      · subst hc; rw [Nat.min_eq_right (by omega)]; exact hS
      · by_cases hc2 : x < a
        · have hlt : x + 2 * s ≤ a := by rcases hs with rfl | rfl <;> omega
          rw [Nat.min_eq_left (by omega), Nat.mul_comm s 2]; exact sort_perm (h1 x (by rcases hs with rfl | rfl <;> omega) hlt) hm.1 (.inl hlt)
        · have hlt : a + 2 * s ≤ x := by rcases hs with rfl | rfl <;> omega
          exact fun i j hi hij hj => by rw [Nat.min_eq_right (by omega)] at hj; omega
    · by_cases hc : t ≤ a
      · exact cut_perm (h3 t (by rcases hs with rfl | rfl <;> omega)) hm.1 (Nat.le_refl _) hn (.inl hc)
      · have hlt : a + 2 * s ≤ t := by rcases hs with rfl | rfl <;> omega
        exact fun i j hi hit hj hjn => by omega
end Go.Proofs

