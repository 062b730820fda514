/- Coin by coin to the part that lacks most: the plain law. -/
import Derived.Test.YtgcleepiopmabaaDoorSn
namespace Go.Rx
open Go.Proofs
set_option linter.unusedSimpArgs false
set_option linter.unusedVariables false

def mkR (N : Nat) (f : Nat → Int) : List SV := (List.range N).map fun q => .int .i64 (f q)
def bSV : Bool → SV
  | true => .tt
  | false => .ff
def mkB (N : Nat) (g : Nat → Bool) : List SV := (List.range N).map fun q => bSV (g q)
def rqF (n S : Int) (W : List SV) (q : Nat) : Int := n * wt W q / S
def rmF (n S : Int) (W : List SV) (q : Nat) : Int := n * wt W q % S
/-- The best of the first t that haven't been given any. -/
def scn (R : Nat → Int) (g : Nat → Bool) : Nat → Int
  | 0 => -1
  | t + 1 => if g t = false ∧ (scn R g t < 0 ∨ R (scn R g t).toNat < R t) then t else scn R g t
/-- Who has been given a coin after k turns. -/
def gvF (R : Nat → Int) (N : Nat) : Nat → Nat → Bool
  | 0, _ => false
  | k + 1, q => if q = (scn R (gvF R N k) N).toNat then true else gvF R N k q
def oF (n S : Int) (W : List SV) (k q : Nat) : Int := rqF n S W q + if gvF (rmF n S W) W.length k q = true then 1 else 0
def left0 (n S : Int) (W : List SV) : Int := n - sumQ n S W W.length
def srtF (R : Nat → Int) (N : Nat) (p : List Int) : Prop := p.Perm ((List.range N).map fun (i : Nat) => (i : Int)) ∧
  ∀ i j, i < j → j < N → R (p.getD j 0).toNat < R (p.getD i 0).toNat ∨ (R (p.getD i 0).toNat = R (p.getD j 0).toNat ∧ p.getD i 0 ≤ p.getD j 0)
/-- What the reference makes. -/
def refF (x : Int) (W : List SV) (q : Nat) : Int :=
  if x < 0 then -oF x.natAbs (sumW W W.length) W (left0 x.natAbs (sumW W W.length) W).toNat q else oF x.natAbs (sumW W W.length) W (left0 x.natAbs (sumW W W.length) W).toNat q
def refL (x : Int) (W : List SV) : List SV := mkR W.length (refF x W)
def rfOK (x : Int) (W : List SV) : Prop := (-1000000 ≤ x ∧ x ≤ 1000000) ∧ 0 < W.length ∧ W.length ≤ 64 ∧ wOk W W.length ∧ 0 < sumW W W.length ∧ ∃ p, srtF (rmF x.natAbs (sumW W W.length) W) W.length p
theorem mkR_len {N : Nat} {f : Nat → Int} : (mkR N f).length = N := by simp [mkR]
theorem mkB_len {N : Nat} {g : Nat → Bool} : (mkB N g).length = N := by simp [mkB]
theorem mkR_wt {N : Nat} {f : Nat → Int} {q : Nat} (h : q < N) : wt (mkR N f) q = f q := by
  have g : (mkR N f).getD q .any = .int .i64 (f q) := by
    unfold mkR
    rw [List.getD_eq_getElem?_getD, List.getElem?_map, List.getElem?_range h]; rfl
  unfold wt elCell
  rw [g]; rfl
theorem mkB_at {N : Nat} {g : Nat → Bool} {q : Nat} (h : q < N) : (elCell (mkB N g) q 0).toBool = g q := by
  have e : (mkB N g).getD q .any = bSV (g q) := by
    unfold mkB
    rw [List.getD_eq_getElem?_getD, List.getElem?_map, List.getElem?_range h]; rfl
  unfold elCell
  rw [e]
  cases g q <;> rfl
theorem map_set_if {α : Type} (N i : Nat) (h : Nat → α) (v : α) : ((List.range N).map h).set i v = (List.range N).map fun q => if q = i then v else h q := by
  apply List.ext_getElem?
  intro q
  rw [List.getElem?_set, List.getElem?_map, List.getElem?_map]
  by_cases hq : q < N
  · rw [List.getElem?_range hq]
    by_cases e : i = q
    · subst e; simp [hq]
    · rw [if_neg e]
      simp only [Option.map_some]
      rw [if_neg (fun h => e h.symm)]
  · rw [List.getElem?_eq_none (l := List.range N) (by simp; omega)]
    by_cases e : i = q
    · subst e; simp; omega
    · rw [if_neg e]; rfl
theorem mkR_set {N : Nat} {f : Nat → Int} {i : Nat} {a : Int} : (mkR N f).set i (.int .i64 a) = mkR N fun q => if q = i then a else f q := by
  unfold mkR
  rw [map_set_if]
  refine List.map_congr_left fun q _ => ?_
  by_cases e : q = i
  · simp only [if_pos e]
  · simp only [if_neg e]
theorem mkB_set {N : Nat} {g : Nat → Bool} {i : Nat} {a : Bool} : (mkB N g).set i (bSV a) = mkB N fun q => if q = i then a else g q := by
  unfold mkB
  rw [map_set_if]
  refine List.map_congr_left fun q _ => ?_
  by_cases e : q = i
  · simp only [if_pos e]
  · simp only [if_neg e]
theorem mkR_ext {N : Nat} {f g : Nat → Int} (h : ∀ q, q < N → f q = g q) : mkR N f = mkR N g :=
  List.map_congr_left fun q hq => by rw [h q (List.mem_range.1 hq)]
theorem mkB_ext {N : Nat} {f g : Nat → Bool} (h : ∀ q, q < N → f q = g q) : mkB N f = mkB N g :=
  List.map_congr_left fun q hq => by rw [h q (List.mem_range.1 hq)]
theorem map_const_rep {α : Type} (N : Nat) (v : α) : List.replicate N v = (List.range N).map fun _ => v := by
  rw [List.map_const', List.length_range]
theorem mkR_zero {N : Nat} : List.replicate N (SV.int .i64 0) = mkR N fun _ => 0 := map_const_rep _ _
theorem mkB_zero {N : Nat} : List.replicate N SV.ff = mkB N fun _ => false := map_const_rep _ _
theorem scn_spec (R : Nat → Int) (g : Nat → Bool) : ∀ t : Nat, (scn R g t = -1 ∧ ∀ i, i < t → g i = true) ∨ (0 ≤ scn R g t ∧ scn R g t < t ∧ g (scn R g t).toNat = false ∧ ∀ i : Nat, i < t → g i = false → R i < R (scn R g t).toNat ∨ (R i = R (scn R g t).toNat ∧ scn R g t ≤ i))
  | 0 => .inl ⟨rfl, fun i hi => absurd hi (Nat.not_lt_zero _)⟩
  | t + 1 => by
    have ih := scn_spec R g t
    simp only [scn]
    generalize scn R g t = b at *
    by_cases hg : g t = false
    · rcases ih with ⟨h1, h2⟩ | ⟨h1, h2, h3, h4⟩
      · rw [if_pos ⟨hg, .inl (by omega)⟩]
        refine .inr ⟨by omega, by omega, by rw [Int.toNat_natCast]; exact hg, fun i hi hgi => ?_⟩
        rcases Nat.lt_or_ge i t with h | h
        · rw [h2 i h] at hgi; cases hgi
        · have : i = t := by omega
          subst this
          exact .inr ⟨by rw [Int.toNat_natCast], Int.le_refl _⟩
      · by_cases hc : R b.toNat < R t
        · rw [if_pos ⟨hg, .inr hc⟩]
          refine .inr ⟨by omega, by omega, by rw [Int.toNat_natCast]; exact hg, fun i hi hgi => ?_⟩
          rw [Int.toNat_natCast]
          rcases Nat.lt_or_ge i t with h | h
          · rcases h4 i h hgi with h5 | ⟨h5, _⟩
            · exact .inl (by omega)
            · exact .inl (by omega)
          · have : i = t := by omega
            subst this
            exact .inr ⟨rfl, Int.le_refl _⟩
        · rw [if_neg (fun h => by rcases h.2 with h | h <;> omega)]
          refine .inr ⟨h1, by omega, h3, fun i hi hgi => ?_⟩
          rcases Nat.lt_or_ge i t with h | h
          · exact h4 i h hgi
          · have : i = t := by omega
            subst this
            rcases Int.lt_or_eq_of_le (Int.not_lt.1 hc) with h5 | h5
            · exact .inl h5
            · exact .inr ⟨h5, by omega⟩
    · rw [if_neg (fun h => hg h.1)]
      rw [Bool.not_eq_false] at hg
      rcases ih with ⟨h1, h2⟩ | ⟨h1, h2, h3, h4⟩
      · refine .inl ⟨h1, fun i hi => ?_⟩
        rcases Nat.lt_or_ge i t with h | h
        · exact h2 i h
        · rw [show i = t by omega]; exact hg
      · refine .inr ⟨h1, by omega, h3, fun i hi hgi => ?_⟩
        rcases Nat.lt_or_ge i t with h | h
        · exact h4 i h hgi
        · rw [show i = t by omega, hg] at hgi; cases hgi
theorem srt_len {R : Nat → Int} {N : Nat} {p : List Int} (h : srtF R N p) : p.length = N := by
  rw [h.1.length_eq]; simp
theorem srt_in {R : Nat → Int} {N : Nat} {p : List Int} (h : srtF R N p) {i : Nat} (hi : i < N) : 0 ≤ p.getD i 0 ∧ p.getD i 0 < N := by
  have hl := srt_len h
  rw [List.getD_eq_getElem?_getD, List.getElem?_eq_getElem (by omega)]
  have hm : p[i] ∈ p := List.getElem_mem (by omega)
  obtain ⟨k, hk, e⟩ := List.mem_map.1 (h.1.mem_iff.1 hm)
  rw [List.mem_range] at hk
  show 0 ≤ p[i] ∧ p[i] < N
  omega
theorem srt_inj {R : Nat → Int} {N : Nat} {p : List Int} (h : srtF R N p) {i j : Nat} (hij : i < j) (hj : j < N) : p.getD i 0 ≠ p.getD j 0 := by
  have hl := srt_len h
  have hnd : p.Nodup := h.1.nodup_iff.2 (by
    refine List.Pairwise.map _ (fun a b hab => ?_) List.nodup_range
    intro e
    exact hab (by omega))
  have := List.pairwise_iff_getElem.1 hnd i j (by omega) (by omega) hij
  rw [List.getD_eq_getElem?_getD, List.getElem?_eq_getElem (by omega), List.getD_eq_getElem?_getD, List.getElem?_eq_getElem (by omega)]
  exact this
theorem srt_all {R : Nat → Int} {N : Nat} {p : List Int} (h : srtF R N p) {q : Nat} (hq : q < N) : ∃ j, j < N ∧ p.getD j 0 = q := by
  have hl := srt_len h
  have hm : (q : Int) ∈ p := h.1.mem_iff.2 (List.mem_map.2 ⟨q, List.mem_range.2 hq, rfl⟩)
  obtain ⟨j, hj, e⟩ := List.getElem_of_mem hm
  exact ⟨j, by omega, by rw [List.getD_eq_getElem?_getD, List.getElem?_eq_getElem hj]; exact e⟩
/-- Given are just the first k of a sorted row. -/
theorem gv_is {R : Nat → Int} {N : Nat} {p : List Int} (h : srtF R N p) : ∀ k, k ≤ N → (∀ q, q < N → (gvF R N k q = true ↔ ∃ j, j < k ∧ p.getD j 0 = q)) ∧ (k < N → scn R (gvF R N k) N = p.getD k 0)
  | 0, hk => by
    have h1 : ∀ q, q < N → (gvF R N 0 q = true ↔ ∃ j, j < 0 ∧ p.getD j 0 = q) := fun q _ => ⟨fun e => absurd e Bool.false_ne_true, fun ⟨j, hj, _⟩ => absurd hj (Nat.not_lt_zero _)⟩
    exact ⟨h1, fun hkN => scn_at h h1 hkN⟩
  | k + 1, hk => by
    obtain ⟨h1, h2⟩ := gv_is h k (by omega)
    have h2 := h2 (by omega)
    have hin := srt_in h (show k < N by omega)
    have h3 : ∀ q, q < N → (gvF R N (k + 1) q = true ↔ ∃ j, j < k + 1 ∧ p.getD j 0 = q) := fun q hq => by
      simp only [gvF]
      rw [h2]
      by_cases e : q = (p.getD k 0).toNat
      · rw [if_pos e]
        exact ⟨fun _ => ⟨k, by omega, by omega⟩, fun _ => rfl⟩
      · rw [if_neg e, h1 q hq]
        constructor
        · rintro ⟨j, hj, e2⟩; exact ⟨j, by omega, e2⟩
        · rintro ⟨j, hj, e2⟩
          refine ⟨j, ?_, e2⟩
          rcases Nat.lt_or_ge j k with h4 | h4
          · exact h4
          · have : j = k := by omega
            subst this
            exact absurd (show q = (p.getD j 0).toNat by omega) e
    exact ⟨h3, fun hkN => scn_at h h3 hkN⟩
where
  scn_at {R : Nat → Int} {N : Nat} {p : List Int} (h : srtF R N p) {k : Nat} (h1 : ∀ q, q < N → (gvF R N k q = true ↔ ∃ j, j < k ∧ p.getD j 0 = q)) (hk : k < N) : scn R (gvF R N k) N = p.getD k 0 := by
    have hin := srt_in h hk
    have hn : gvF R N k (p.getD k 0).toNat = false := by
      rw [← Bool.not_eq_true, h1 _ (by omega)]
      rintro ⟨j, hj, e⟩
      exact srt_inj h hj hk (by omega)
    rcases scn_spec R (gvF R N k) N with ⟨_, h3⟩ | ⟨b1, b2, b3, b4⟩
    · rw [h3 _ (by omega)] at hn; cases hn
    · generalize scn R (gvF R N k) N = b at *
      obtain ⟨j, hj, ej⟩ := srt_all h (show b.toNat < N by omega)
      have hjk : k ≤ j := by
        rcases Nat.lt_or_ge j k with h5 | h5
        · have := (h1 b.toNat (by omega)).2 ⟨j, h5, ej⟩
          rw [this] at b3; cases b3
        · exact h5
      rcases Nat.lt_or_ge k j with h5 | h5
      · have h6 := h.2 k j h5 hj
        have h7 := b4 _ (by omega) hn
        rw [ej, Int.toNat_natCast] at h6
        omega
      · have : j = k := by omega
        subst this
        omega
theorem inc_gv {R : Nat → Int} {N : Nat} {p : List Int} (h : srtF R N p) {k q : Nat} (hk : k ≤ N) (hq : q < N) : inc (iSV p) k q = if gvF R N k q = true then 1 else 0 := by
  have h1 := (gv_is h k hk).1 q hq
  have hprm : prm (iSV p) N := ⟨p, rfl, h.1⟩
  have h2 := inc_in hprm hk (q : Int)
  have hpos : ∀ k, k ≤ N → (inc (iSV p) k q ≠ 0 ↔ ∃ j, j < k ∧ p.getD j 0 = q) := fun k hk => by
    induction k with
    | zero => exact ⟨fun e => absurd rfl e, fun ⟨j, hj, _⟩ => absurd hj (Nat.not_lt_zero _)⟩
    | succ k ih =>
      have ih := ih (by omega)
      have h3 := inc_in hprm (show k ≤ N by omega) (q : Int)
      simp only [inc]
      rw [wt_iSV]
      by_cases e : p.getD k 0 = q
      · rw [if_pos e]
        exact ⟨fun _ => ⟨k, by omega, e⟩, fun _ => by omega⟩
      · rw [if_neg e, Int.add_zero, ih]
        constructor
        · rintro ⟨j, hj, e2⟩; exact ⟨j, by omega, e2⟩
        · rintro ⟨j, hj, e2⟩
          refine ⟨j, ?_, e2⟩
          rcases Nat.lt_or_ge j k with h4 | h4
          · exact h4
          · have : j = k := by omega
            subst this
            exact absurd e2 e
  by_cases hg : gvF R N k q = true
  · rw [if_pos hg]
    have := (hpos k hk).2 (h1.1 hg)
    omega
  · rw [if_neg hg]
    by_cases h0 : inc (iSV p) k q = 0
    · exact h0
    · exact absurd (h1.2 ((hpos k hk).1 h0)) hg
end Go.Rx

