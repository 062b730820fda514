/- Two runs merged in place: the plain law. -/
import Derived.Test.YtgcleepiopmabaaDoorSs2
import Derived.Sort.LotA
namespace Go.Proofs
open Go.Shelf Go.RowKit Go.Lib Go.Sort
set_option linter.unusedSimpArgs false
set_option linter.unusedVariables false
set_option linter.unusedSectionVars false
variable {α : Type} [Inhabited α]

/-- Two ranges exchanged. -/
def SwpEq (a b n : Nat) (d d' : Array α) : Prop := ∀ k, d'[k]! = if a ≤ k ∧ k < a + n then d[b + (k - a)]! else if b ≤ k ∧ k < b + n then d[a + (k - b)]! else d[k]!
/-- Two neighbours exchanged. -/
def RotEq (s m e : Nat) (d d' : Array α) : Prop := ∀ k, d'[k]! = if s ≤ k ∧ k < s + (e - m) then d[m + (k - s)]! else if s + (e - m) ≤ k ∧ k < e then d[s + (k - (s + (e - m)))]! else d[k]!
theorem swp_zero (a b : Nat) (d : Array α) : SwpEq a b 0 d d := fun k => by rw [if_neg (by omega), if_neg (by omega)]
theorem swp_next {a b n : Nat} {d dk : Array α} (h : SwpEq a b n d dk) (hab : a + n < b) (hs : dk.size = d.size) (hb : b + n < d.size) : SwpEq a b (n + 1) d (swp dk (a + n) (b + n)) := fun k => by
  rw [swp_get dk (by omega) (by omega) k, h (a + n), h (b + n), h k]
  repeat' split
  all_goals first
    | rfl
    | omega
    | (congr 1; omega)
theorem rot_eq {m i : Nat} {d d1 : Array α} (hi : i ≤ m) (h : SwpEq (m - i) m i d d1) : RotEq (m - i) m (m + i) d d1 := fun k => by
  rw [h k]
  repeat' split
  all_goals first
    | rfl
    | omega
    | (congr 1; omega)
theorem rot_gt {m i j : Nat} {d d1 d2 : Array α} (hi : i ≤ m) (hj : j < i) (h : SwpEq (m - i) m j d d1) (h2 : RotEq (m - (i - j)) m (m + j) d1 d2) : RotEq (m - i) m (m + j) d d2 := fun k => by
  rw [h2 k]
  simp only [h _]
  repeat' split
  all_goals first
    | rfl
    | omega
    | (congr 1; omega)
theorem rot_lt {m i j : Nat} {d d1 d2 : Array α} (hi : i ≤ m) (hj : i < j) (h : SwpEq (m - i) (m + j - i) i d d1) (h2 : RotEq (m - i) m (m + (j - i)) d1 d2) : RotEq (m - i) m (m + j) d d2 := fun k => by
  rw [h2 k]
  simp only [h _]
  repeat' split
  all_goals first
    | rfl
    | omega
    | (congr 1; omega)
theorem left_next {a k : Nat} {d dk : Array α} (h : ∀ q, dk[q]! = if a ≤ q ∧ q < k then d[q + 1]! else if q = k then d[a]! else d[q]!) (hak : a ≤ k) (hk : k + 1 < dk.size) (q : Nat) :
    (swp dk k (k + 1))[q]! = if a ≤ q ∧ q < k + 1 then d[q + 1]! else if q = k + 1 then d[a]! else d[q]! := by
  rw [swp_get dk (by omega) hk q, h k, h (k + 1), h q]
  repeat' split
  all_goals first
    | rfl
    | omega
    | (congr 1; omega)
theorem right_next {m k : Nat} {d dk : Array α} (h : ∀ q, dk[q]! = if q = k + 1 then d[m]! else if k + 1 < q ∧ q ≤ m then d[q - 1]! else d[q]!) (hkm : k + 1 ≤ m) (hk : k + 1 < dk.size) (q : Nat) :
    (swp dk (k + 1) k)[q]! = if q = k then d[m]! else if k < q ∧ q ≤ m then d[q - 1]! else d[q]! := by
  rw [swp_get dk hk (by omega) q, h k, h (k + 1), h q]
  repeat' split
  all_goals first
    | rfl
    | omega
    | (congr 1; omega)
theorem rot_none {s m e : Nat} {d : Array α} (h : s = m ∨ e = m) : RotEq s m e d d := fun k => by
  rcases h with rfl | rfl
  · repeat' split
    all_goals first
      | rfl
      | omega
      | (congr 1; omega)
  · repeat' split
    all_goals first
      | rfl
      | omega
      | (congr 1; omega)
section
variable (r : α → Int) (ix : α → Nat)
/-- Which comes first: of which more is left out, or, of the same, the one ahead. -/
def lt2 (x y : α) : Prop := r y < r x ∨ (r x = r y ∧ ix x ≤ ix y)
def SortS (a b : Nat) (d : Array α) : Prop := ∀ i j, a ≤ i → i < j → j < b → lt2 r ix d[i]! d[j]!
def CrossS (a m b : Nat) (d : Array α) : Prop := ∀ i j, a ≤ i → i < m → m ≤ j → j < b → ix d[i]! < ix d[j]!
variable {r ix}
theorem lt2_trans {x y z : α} (h1 : lt2 r ix x y) (h2 : lt2 r ix y z) : lt2 r ix x z := by
  unfold lt2 at *; omega
theorem SortS.le {a b : Nat} {d : Array α} (h : SortS r ix a b d) {i j : Nat} (hi : a ≤ i) (hij : i ≤ j) (hj : j < b) {z : α} (hz : lt2 r ix d[j]! z) : lt2 r ix d[i]! z := by
  rcases Nat.lt_or_ge i j with h1 | h1
  · exact lt2_trans (h i j hi h1 hj) hz
  · rw [show i = j by omega]; exact hz
theorem SortS.ge {a b : Nat} {d : Array α} (h : SortS r ix a b d) {i j : Nat} (hi : a ≤ i) (hij : i ≤ j) (hj : j < b) {z : α} (hz : lt2 r ix z d[i]!) : lt2 r ix z d[j]! := by
  rcases Nat.lt_or_ge i j with h1 | h1
  · exact lt2_trans hz (h i j hi h1 hj)
  · rw [show j = i by omega]; exact hz
theorem SortS.congr {a b : Nat} {d d' : Array α} (h : SortS r ix a b d) (e : ∀ k, a ≤ k → k < b → d'[k]! = d[k]!) : SortS r ix a b d' := fun i j hi hij hj => by
  rw [e i hi (by omega), e j (by omega) hj]; exact h i j hi hij hj
/-- What is asked and told of a merge. -/
def MrgS (r : α → Int) (ix : α → Nat) (a m b : Nat) (d d' : Array α) : Prop := PermIn a b d d' ∧ (SortS r ix a m d → SortS r ix m b d → CrossS ix a m b d → SortS r ix a b d')
theorem mrg_ok {a m b mid start en : Nat} {d d1 d2 d3 : Array α} (ham : a < m) (hmb : m < b) (hb : b ≤ d.size) (hmid : mid + m = en + start) (hsm : start ≤ mid) (hs2 : start ≤ m) (has : a ≤ start) (hen : en ≤ b) (hm1 : a < mid) (hm2 : mid < b)
    (hp1 : PermIn a b d d1) (hrot : RotEq start m en d d1)
    (h2 : (d2 = d1 ∧ (start = a ∨ start = mid)) ∨ MrgS r ix a start mid d1 d2) (h3 : (d3 = d2 ∧ (en = mid ∨ en = b)) ∨ MrgS r ix mid en b d2 d3)
    (F1 : start = a ∨ en = b ∨ r d[en]! ≤ r d[start - 1]!) (F2 : start = m ∨ en = m ∨ r d[start]! < r d[en - 1]!) : MrgS r ix a m b d d3 := by
  have e1 : ∀ k, k < start → d1[k]! = d[k]! := fun k hk => by rw [hrot k, if_neg (by omega), if_neg (by omega)]
  have e2 : ∀ k, start ≤ k → k < mid → d1[k]! = d[m + (k - start)]! := fun k hk hk2 => by rw [hrot k, if_pos (by omega)]
  have e3 : ∀ k, mid ≤ k → k < en → d1[k]! = d[start + (k - mid)]! := fun k hk hk2 => by rw [hrot k, if_neg (by omega), if_pos (by omega)]; congr 1; omega
  have e4 : ∀ k, en ≤ k → d1[k]! = d[k]! := fun k hk => by rw [hrot k, if_neg (by omega), if_neg (by omega)]
  have p2 : PermIn a mid d1 d2 := by
    rcases h2 with ⟨rfl, _⟩ | h2
    · exact permIn_refl _ _ _
    · exact h2.1
  have p3 : PermIn mid b d2 d3 := by
    rcases h3 with ⟨rfl, _⟩ | h3
    · exact permIn_refl _ _ _
    · exact h3.1
  have z1 := hp1.1
  have z2 := p2.1
  refine ⟨permIn_trans _ _ _ _ _ hp1 (permIn_trans _ _ _ _ _ (permIn_mono _ _ _ _ _ _ (Nat.le_refl _) (by omega) (by omega) p2) (permIn_mono _ _ _ _ _ _ (by omega) (Nat.le_refl _) (by omega) p3)), fun hL hR hX => ?_⟩
  have s11 : SortS r ix a start d1 := fun i j hi hij hj => by rw [e1 i (by omega), e1 j hj]; exact hL i j hi hij (by omega)
  have s12 : SortS r ix start mid d1 := fun i j hi hij hj => by rw [e2 i hi (by omega), e2 j (by omega) hj]; exact hR _ _ (by omega) (by omega) (by omega)
  have s21 : SortS r ix mid en d1 := fun i j hi hij hj => by rw [e3 i hi (by omega), e3 j (by omega) hj]; exact hL _ _ (by omega) (by omega) (by omega)
  have s22 : SortS r ix en b d1 := fun i j hi hij hj => by rw [e4 i hi, e4 j (by omega)]; exact hR i j (by omega) hij hj
  have hS2 : SortS r ix a mid d2 := by
    rcases h2 with ⟨rfl, h | h⟩ | h2
    · rw [← h]; exact s12
    · rw [← h]; exact s11
    · exact h2.2 s11 s12 (fun i j hi hi2 hj hj2 => by rw [e1 i hi2, e2 j hj hj2]; exact hX _ _ hi (by omega) (by omega) (by omega))
  have eqs : ∀ k, mid ≤ k → d2[k]! = d1[k]! := fun k hk => p2.2.1 k (.inr hk)
  have hS3 : SortS r ix mid b d3 := by
    have t1 : SortS r ix mid en d2 := s21.congr fun k hk _ => eqs k hk
    have t2 : SortS r ix en b d2 := s22.congr fun k hk _ => eqs k (by omega)
    rcases h3 with ⟨rfl, h | h⟩ | h3
    · rw [← h]; exact t2
    · rw [← h]; exact t1
    · exact h3.2 t1 t2 (fun i j hi hi2 hj hj2 => by rw [eqs i hi, eqs j (by omega), e3 i hi hi2, e4 j hj]; exact hX _ _ (by omega) (by omega) (by omega) hj2)
  have hc : ∀ i j, a ≤ i → i < mid → mid ≤ j → j < b → lt2 r ix d1[i]! d1[j]! := fun i j hi hi2 hj hj2 => by
    by_cases c1 : i < start
    · rw [e1 i c1]
      by_cases c2 : j < en
      · rw [e3 j hj c2]; exact hL _ _ hi (by omega) (by omega)
      · rw [e4 j (by omega)]
        have hF : r d[en]! ≤ r d[start - 1]! := by omega
        have hx := hX (start - 1) en (by omega) (by omega) (by omega) (by omega)
        have hl : lt2 r ix d[start - 1]! d[en]! := by unfold lt2; omega
        exact hR.ge (i := en) (by omega) (by omega) hj2 (hL.le hi (by omega) (by omega) hl)
    · rw [e2 i (by omega) hi2]
      by_cases c2 : j < en
      · rw [e3 j hj c2]
        have hF : r d[start]! < r d[en - 1]! := by omega
        have hl : lt2 r ix d[en - 1]! d[start]! := .inl hF
        exact hL.ge (i := start) (by omega) (by omega) (by omega) (hR.le (j := en - 1) (by omega) (by omega) (by omega) hl)
      · rw [e4 j (by omega)]; exact hR _ _ (by omega) (by omega) hj2
  have hc2 : ∀ i j, a ≤ i → i < mid → mid ≤ j → j < b → lt2 r ix d2[i]! d2[j]! := fun i j hi hi2 hj hj2 => by
    rw [eqs j hj]
    exact permIn_all d1 d2 a mid (fun x => lt2 r ix x d1[j]!) (by omega) p2 (fun i hi hi2 => hc i j hi hi2 hj hj2) i hi hi2
  have hc3 : ∀ i j, a ≤ i → i < mid → mid ≤ j → j < b → lt2 r ix d3[i]! d3[j]! := fun i j hi hi2 hj hj2 => by
    rw [p3.2.1 i (.inl hi2)]
    exact permIn_all d2 d3 mid b (fun y => lt2 r ix d2[i]! y) (by omega) p3 (fun j hj hj2 => hc2 i j hi hi2 hj hj2) j hj hj2
  intro i j hi hij hj
  by_cases c1 : j < mid
  · rw [p3.2.1 i (.inl (by omega)), p3.2.1 j (.inl c1)]; exact hS2 i j hi hij c1
  · by_cases c2 : i < mid
    · exact hc3 i j hi c2 (by omega) hj
    · exact hS3 i j (by omega) hij hj
/-- One element on the left goes to its place. -/
theorem mrg_left {a b i : Nat} {d d' : Array α} (hai : a < i) (hib : i ≤ b) (hp : PermIn a b d d') (he : ∀ k, a ≤ k → k < b → d'[k]! = if k < i - 1 then d[k + 1]! else if k = i - 1 then d[a]! else d[k]!)
    (F1 : i = a + 1 ∨ r d[a]! < r d[i - 1]!) (F2 : i = b ∨ r d[i]! ≤ r d[a]!) : MrgS r ix a (a + 1) b d d' := by
  refine ⟨hp, fun _ hR hX => ?_⟩
  have hlo : ∀ q, a + 1 ≤ q → q < i → lt2 r ix d[q]! d[a]! := fun q hq hq2 => by
    have hl : lt2 r ix d[i - 1]! d[a]! := .inl (by omega)
    exact hR.le hq (by omega) (by omega) hl
  have hhi : ∀ q, i ≤ q → q < b → lt2 r ix d[a]! d[q]! := fun q hq hq2 => by
    have hx := hX a i (Nat.le_refl _) (by omega) (by omega) (by omega)
    have hl : lt2 r ix d[a]! d[i]! := by unfold lt2; omega
    exact hR.ge (i := i) (by omega) hq hq2 hl
  intro k l hk hkl hl
  rw [he k hk (by omega), he l (by omega) hl]
  by_cases c1 : k < i - 1
  · rw [if_pos c1]
    by_cases c2 : l < i - 1
    · rw [if_pos c2]; exact hR _ _ (by omega) (by omega) (by omega)
    · rw [if_neg c2]
      by_cases c3 : l = i - 1
      · rw [if_pos c3]; exact hlo _ (by omega) (by omega)
      · rw [if_neg c3]; exact hR _ _ (by omega) (by omega) hl
  · rw [if_neg c1]
    by_cases c2 : k = i - 1
    · rw [if_pos c2, if_neg (by omega), if_neg (by omega)]; exact hhi _ (by omega) hl
    · rw [if_neg c2, if_neg (by omega), if_neg (by omega)]; exact hR _ _ (by omega) hkl hl
/-- One element on the right goes to its place. -/
theorem mrg_right {a m i : Nat} {d d' : Array α} (hai : a ≤ i) (him : i ≤ m) (hp : PermIn a (m + 1) d d') (he : ∀ k, a ≤ k → k < m + 1 → d'[k]! = if k < i then d[k]! else if k = i then d[m]! else d[k - 1]!)
    (F1 : i = a ∨ r d[m]! ≤ r d[i - 1]!) (F2 : i = m ∨ r d[i]! < r d[m]!) : MrgS r ix a m (m + 1) d d' := by
  refine ⟨hp, fun hL _ hX => ?_⟩
  have hlo : ∀ q, a ≤ q → q < i → lt2 r ix d[q]! d[m]! := fun q hq hq2 => by
    have hx := hX (i - 1) m (by omega) (by omega) (Nat.le_refl _) (by omega)
    have hl : lt2 r ix d[i - 1]! d[m]! := by unfold lt2; omega
    exact hL.le hq (by omega) (by omega) hl
  have hhi : ∀ q, i ≤ q → q < m → lt2 r ix d[m]! d[q]! := fun q hq hq2 => by
    have hl : lt2 r ix d[m]! d[i]! := .inl (by omega)
    exact hL.ge (i := i) hai hq hq2 hl
  intro k l hk hkl hl
  rw [he k hk (by omega), he l (by omega) hl]
  by_cases c1 : k < i
  · rw [if_pos c1]
    by_cases c2 : l < i
    · rw [if_pos c2]; exact hL _ _ hk hkl (by omega)
    · rw [if_neg c2]
      by_cases c3 : l = i
      · rw [if_pos c3]; exact hlo _ hk c1
      · rw [if_neg c3]; exact hL _ _ hk (by omega) (by omega)
  · rw [if_neg c1, if_neg (show ¬ l < i by omega), if_neg (show ¬ l = i by omega)]
    by_cases c2 : k = i
    · rw [if_pos c2]; exact hhi _ (by omega) (by omega)
    · rw [if_neg c2]; exact hL _ _ (by omega) (by omega) (by omega)
end
end Go.Proofs

