/- Amounts in parts: the plain law. -/
import Derived.Test.YtgcleepiopmabaaDoorSs6
import Derived.Test.YtgcleepiopmabaaDoorMtx
namespace Go.Rx
open Go.Proofs
set_option linter.unusedSimpArgs false
set_option linter.unusedVariables false

def wt (l : List SV) (i : Nat) : Int := (elCell l i 0).toInt
def sumW (l : List SV) : Nat → Int
  | 0 => 0
  | i + 1 => sumW l i + wt l i
def sumQ (n S : Int) (W : List SV) : Nat → Int
  | 0 => 0
  | i + 1 => sumQ n S W i + n * wt W i / S
/-- How often a place stands among the first i of a row. -/
def inc (Y : List SV) : Nat → Int → Int
  | 0, _ => 0
  | i + 1, t => inc Y i t + if wt Y i = t then 1 else 0
def prm (Y : List SV) (N : Nat) : Prop := ∃ p : List Int, Y = iSV p ∧ p.Perm ((List.range N).map fun (i : Nat) => (i : Int))
def sumF (f : Nat → Int) : Nat → Int
  | 0 => 0
  | i + 1 => sumF f i + f i
/-- Are these the parts, without a sign? -/
def Spr (n S : Int) (W : List SV) (f : Nat → Int) : Prop := (∀ q, q < W.length → f q = n * wt W q / S ∨ f q = n * wt W q / S + 1) ∧ sumF f W.length = n
def wOk (W : List SV) (n : Nat) : Prop := ∀ q, q < n → 0 ≤ wt W q ∧ wt W q ≤ 1048576
def ngF (L : List SV) (i : Nat) (q : Nat) : Int := if q < i then -wt L q else wt L q
def coinS (x mode : Int) (P : List SV) : Nat → Int
  | 0 => 0
  | i + 1 => coinS x mode P i + takeV x (wt P i) mode
/-- The parts, with the amount's sign. -/
def SprOK (x S : Int) (P L : List SV) : Prop := L.length = P.length ∧ Spr x.natAbs S P (ngF L (if x < 0 then L.length else 0))
def rtOk (P : List SV) (n : Nat) : Prop := ∀ q, q < n → 0 ≤ wt P q ∧ wt P q ≤ 10000

theorem right1 {x : Int} : rightL [.int .i64 x] = rightB x := by simp [rightL, ints, elCell, SV.cells, SV.toInt]
theorem chkE_z {b : Bool} : chkE b = 0 ↔ b = true := by cases b <;> simp [chkE]
theorem wt_set {l : List SV} {k : IntKind} {i q : Nat} {a : Int} (hi : i < l.length) : wt (l.set i (.int k a)) q = if q = i then a else wt l q := by
  have g : (l.set i (SV.int k a)).getD q .any = if q = i then .int k a else l.getD q .any := by
    rw [List.getD_eq_getElem?_getD]
    by_cases h : q = i
    · subst h; rw [List.getElem?_set_self hi, if_pos rfl]; rfl
    · rw [List.getElem?_set_ne (fun e => h e.symm), if_neg h, List.getD_eq_getElem?_getD]
  unfold wt elCell
  rw [g]
  by_cases h : q = i
  · rw [if_pos h, if_pos h]; rfl
  · rw [if_neg h, if_neg h]
theorem wt_app {l : List SV} {k : IntKind} {a : Int} {q : Nat} : (q < l.length → wt (l ++ [.int k a]) q = wt l q) ∧ wt (l ++ [.int k a]) l.length = a := by
  constructor
  · intro h
    have g : (l ++ [SV.int k a]).getD q .any = l.getD q .any := by rw [List.getD_eq_getElem?_getD, List.getElem?_append_left h, List.getD_eq_getElem?_getD]
    unfold wt elCell; rw [g]
  · have g : (l ++ [SV.int k a]).getD l.length .any = .int k a := by rw [List.getD_eq_getElem?_getD, List.getElem?_append_right (Nat.le_refl _), Nat.sub_self]; rfl
    unfold wt elCell; rw [g]; rfl
theorem sumW_congr {W P : List SV} : ∀ {n : Nat}, (∀ q, q < n → wt W q = wt P q) → sumW W n = sumW P n
  | 0, _ => rfl
  | n + 1, h => by simp only [sumW]; rw [sumW_congr (n := n) (fun q hq => h q (by omega)), h n (by omega)]
theorem sumF_congr {f g : Nat → Int} : ∀ {n : Nat}, (∀ q, q < n → f q = g q) → sumF f n = sumF g n
  | 0, _ => rfl
  | n + 1, h => by simp only [sumF]; rw [sumF_congr (n := n) (fun q hq => h q (by omega)), h n (by omega)]
theorem sumF_add {f g : Nat → Int} : ∀ n : Nat, sumF (fun q => f q + g q) n = sumF f n + sumF g n
  | 0 => rfl
  | n + 1 => by simp only [sumF]; rw [sumF_add n]; omega
theorem sumF_zero : ∀ n : Nat, sumF (fun _ => 0) n = 0
  | 0 => rfl
  | n + 1 => by simp only [sumF]; rw [sumF_zero n]; rfl
theorem sumF_one {z : Int} : ∀ {n : Nat}, 0 ≤ z → sumF (fun t => if z = (t : Int) then 1 else 0) n = if z < n then 1 else 0
  | 0, h => by rw [if_neg (by omega)]; rfl
  | n + 1, h => by
    simp only [sumF]
    rw [sumF_one (n := n) h]
    by_cases h1 : z < n
    · rw [if_pos h1, if_neg (by omega), if_pos (by omega)]; rfl
    · rw [if_neg h1]
      by_cases h2 : z = n
      · rw [if_pos h2, if_pos (by omega)]; rfl
      · rw [if_neg h2, if_neg (by omega)]; rfl
theorem sumF_mono {f : Nat → Int} {n : Nat} (h : ∀ q, q < n → 0 ≤ f q) : ∀ i j, i ≤ j → j ≤ n → sumF f i ≤ sumF f j
  | i, 0, hi, _ => by rw [Nat.le_zero.1 hi]; exact Int.le_refl _
  | i, j + 1, hi, hj => by
    rcases Nat.lt_or_ge j i with h1 | h1
    · rw [show i = j + 1 by omega]; exact Int.le_refl _
    · simp only [sumF]
      have := sumF_mono h i j h1 (by omega)
      have := h j (by omega)
      omega
theorem sumW_is (W : List SV) : ∀ n, sumW W n = sumF (wt W) n
  | 0 => rfl
  | n + 1 => by simp only [sumW, sumF]; rw [sumW_is W n]
theorem sumQ_is (n S : Int) (W : List SV) : ∀ i, sumQ n S W i = sumF (fun q => n * wt W q / S) i
  | 0 => rfl
  | i + 1 => by simp only [sumQ, sumF]; rw [sumQ_is n S W i]
/-- The quotients' sum, and what is left. -/
theorem sumQ_in {n S : Int} {W : List SV} (hS : 0 < S) : ∀ i, S * sumQ n S W i ≤ n * sumW W i ∧ n * sumW W i ≤ S * sumQ n S W i + i * (S - 1)
  | 0 => by simp [sumQ, sumW]
  | i + 1 => by
    obtain ⟨h1, h2⟩ := sumQ_in (n := n) (W := W) hS i
    have e1 := Int.mul_ediv_add_emod (n * wt W i) S
    have e2 := Int.emod_nonneg (n * wt W i) (b := S) (by omega)
    have e3 := Int.emod_lt_of_pos (n * wt W i) hS
    simp only [sumQ, sumW, Int.mul_add]
    have e4 : ((i + 1 : Nat) : Int) * (S - 1) = (i : Int) * (S - 1) + (S - 1) := by rw [Int.natCast_add, Int.add_mul]; simp
    rw [e4]
    omega
theorem left_in {n S : Int} {W : List SV} (hn : 0 ≤ n) (hS : 0 < S) (h0 : 0 < W.length) (hw : wOk W W.length) (hs : sumW W W.length = S) : ∀ i, i ≤ W.length → 0 ≤ n - sumQ n S W i ∧ n - sumQ n S W i ≤ n ∧ n - sumQ n S W W.length ≤ W.length := by
  have hq : ∀ q, q < W.length → 0 ≤ n * wt W q / S := fun q hq => Int.ediv_nonneg (Int.mul_nonneg hn (hw q hq).1) (Int.le_of_lt hS)
  obtain ⟨h1, h2⟩ := sumQ_in (n := n) (W := W) hS W.length
  rw [hs, Int.mul_comm n S] at h1 h2
  have a1 : sumQ n S W W.length ≤ n := Int.le_of_mul_le_mul_left h1 hS
  have a2 : n - sumQ n S W W.length ≤ W.length := by
    apply Int.le_of_mul_le_mul_left (a := S) _ hS
    rw [Int.mul_sub]
    have : (W.length : Int) * (S - 1) ≤ S * W.length := by
      rw [Int.mul_sub, Int.mul_comm S]; omega
    omega
  intro i hi
  have m1 := sumF_mono hq i W.length hi (Nat.le_refl _)
  have m2 := sumF_mono hq 0 i (Nat.zero_le _) hi
  rw [← sumQ_is, ← sumQ_is] at m1 m2
  simp only [sumQ] at m2
  exact ⟨by omega, by omega, a2⟩
theorem wt_iSV (p : List Int) (i : Nat) : wt (iSV p) i = p.getD i 0 := by
  by_cases hi : i < p.length
  · unfold wt elCell iSV
    rw [getD_map (SV.int .i64) p i 0 .any hi]; rfl
  · have g : (iSV p).getD i .any = .any := by rw [List.getD_eq_getElem?_getD, List.getElem?_eq_none (by rw [iSV_len]; omega)]; rfl
    have e2 : p.getD i 0 = 0 := by rw [List.getD_eq_getElem?_getD, List.getElem?_eq_none (by omega)]; rfl
    unfold wt elCell
    rw [g, e2]; rfl
theorem prm_len {Y : List SV} {N : Nat} (h : prm Y N) : Y.length = N := by
  obtain ⟨p, rfl, hp⟩ := h
  rw [iSV_len, hp.length_eq]; simp
theorem prm_in {Y : List SV} {N i : Nat} (h : prm Y N) (hi : i < N) : 0 ≤ wt Y i ∧ wt Y i < N := by
  have hl := prm_len h
  obtain ⟨p, rfl, hp⟩ := h
  rw [iSV_len] at hl
  rw [wt_iSV, List.getD_eq_getElem?_getD, List.getElem?_eq_getElem (by omega)]
  have hm : p[i] ∈ p := List.getElem_mem (by omega)
  have := hp.mem_iff.1 hm
  obtain ⟨k, hk, e⟩ := List.mem_map.1 this
  rw [List.mem_range] at hk
  show 0 ≤ p[i] ∧ p[i] < N
  omega
theorem inc_count (p : List Int) (t : Int) : ∀ i, i ≤ p.length → inc (iSV p) i t = ((p.take i).count t : Int)
  | 0, _ => by simp [inc]
  | i + 1, h => by
    simp only [inc]
    rw [inc_count p t i (by omega), wt_iSV, List.take_add_one, List.count_append, List.getD_eq_getElem?_getD, List.getElem?_eq_getElem (by omega)]
    simp only [Option.getD_some, Option.toList_some, List.count_cons, List.count_nil, Nat.zero_add, beq_iff_eq]
    split <;> simp
theorem inc_in {Y : List SV} {N i : Nat} (h : prm Y N) (hi : i ≤ N) (t : Int) : 0 ≤ inc Y i t ∧ inc Y i t ≤ 1 := by
  have hl := prm_len h
  obtain ⟨p, rfl, hp⟩ := h
  rw [iSV_len] at hl
  rw [inc_count p t i (by omega)]
  have hnd : p.Nodup := hp.nodup_iff.2 (by
    refine List.Pairwise.map _ (fun a b hab => ?_) List.nodup_range
    intro e
    exact hab (by omega))
  have h1 : (p.take i).count t ≤ p.count t := (List.take_sublist i p).count_le t
  have h2 : p.count t ≤ 1 := List.nodup_iff_count.1 hnd t
  omega
theorem inc_sum {Y : List SV} {N : Nat} (h : prm Y N) : ∀ i, i ≤ N → sumF (fun t => inc Y i (t : Int)) N = i
  | 0, _ => by simp only [inc]; rw [sumF_zero]; rfl
  | i + 1, hi => by
    have hin := prm_in h (show i < N by omega)
    have e : (fun t : Nat => inc Y (i + 1) (t : Int)) = fun t : Nat => (fun t : Nat => inc Y i (t : Int)) t + (fun t : Nat => if wt Y i = (t : Int) then 1 else 0) t := by funext t; simp only [inc]
    rw [e, sumF_add, inc_sum h i (by omega), sumF_one hin.1, if_pos hin.2]; rfl
theorem ints_wt {X : List SV} : ints X = (List.range X.length).map (wt X) := by
  apply List.ext_getElem?
  intro i
  by_cases hi : i < X.length
  · have h1 := ints_get X i hi
    have hl := ints_length X
    rw [List.getElem?_eq_getElem (by omega), List.getElem?_map, List.getElem?_range hi]
    rw [List.getD_eq_getElem?_getD, List.getElem?_eq_getElem (by omega)] at h1
    simp only [Option.getD_some] at h1
    rw [← h1]; rfl
  · rw [List.getElem?_eq_none (by rw [ints_length]; omega), List.getElem?_eq_none (by simpa using hi)]
theorem ints_rng {X : List SV} (h : ∀ q, q < X.length → wt X q = q) : ints X = (List.range X.length).map fun (i : Nat) => (i : Int) := by
  rw [ints_wt]
  exact List.map_congr_left fun q hq => h q (List.mem_range.1 hq)
theorem inr_rng {X : List SV} (h : ∀ q, q < X.length → wt X q = q) : inrB X = true := by
  unfold inrB
  rw [ints_rng h, List.all_map, List.all_eq_true]
  intro q hq
  have := List.mem_range.1 hq
  simp only [Function.comp, Bool.and_eq_true, decide_eq_true_eq]
  omega
theorem prm_of {X : List SV} {p : List Int} {N : Nat} (hN : X.length = N) (h : ∀ q, q < X.length → wt X q = q) (hp : p.Perm (ints X)) : prm (iSV p) N := ⟨p, rfl, by rw [ints_rng h, hN] at hp; exact hp⟩
theorem mulw {n w : Int} (hn : 0 ≤ n ∧ n ≤ 100000000000) (hw : 0 ≤ w ∧ w ≤ 1048576) : 0 ≤ n * w ∧ n * w ≤ 104857600000000000 := by
  have a := Int.mul_nonneg hn.1 hw.1
  have b := Int.mul_le_mul_of_nonneg_right (a := n) (b := 100000000000) (c := w) hn.2 hw.1
  omega
/-- The parts are there. -/
theorem spr_give {n S : Int} {W A B Y : List SV} {i : Nat} (hn : 0 ≤ n ∧ n ≤ 100000000000) (hS : 0 < S) (hw : wOk W W.length) (hB : B.length = W.length) (hA : ∀ q, q < W.length → wt A q = n * wt W q / S) (hY : prm Y W.length) (hi : i ≤ W.length) (hl : (i : Int) = n - sumQ n S W W.length)
    (hb : ∀ t, t < W.length → wt B t = wt A t + inc Y i t) : Spr n S W (wt B) ∧ ∀ q, q < W.length → 0 ≤ wt B q ∧ wt B q ≤ 1000000000000000000 := by
  have hq : ∀ q, q < W.length → 0 ≤ n * wt W q / S ∧ n * wt W q / S ≤ 104857600000000000 := fun q hq => by
    have := mulw hn (hw q hq)
    have h1 := Int.ediv_nonneg this.1 (Int.le_of_lt hS)
    have h2 := Int.ediv_le_self S this.1
    omega
  refine ⟨⟨fun q hq' => ?_, ?_⟩, fun q hq' => ?_⟩
  · have h1 := hb q hq'
    have h2 := hA q hq'
    have h3 := inc_in hY hi (q : Int)
    omega
  · have e : sumF (wt B) W.length = sumF (fun t => (fun q => n * wt W q / S) t + (fun t : Nat => inc Y i (t : Int)) t) W.length := sumF_congr fun q hq' => by rw [hb q hq', hA q hq']
    rw [e, sumF_add, inc_sum hY i hi, ← sumQ_is]; omega
  · have h1 := hb q hq'
    have h2 := hA q hq'
    have h3 := inc_in hY hi (q : Int)
    have h4 := hq q hq'
    omega
theorem ngF_step {A : List SV} {i : Nat} (hi : i < A.length) (q : Nat) : ngF (A.set i (.int .i64 (-wt A i))) (i + 1) q = ngF A i q := by
  unfold ngF
  rw [wt_set hi]
  by_cases h : q = i
  · subst h; rw [if_pos (by omega), if_pos rfl, if_neg (by omega)]; omega
  · rw [if_neg h]
    by_cases h2 : q < i
    · rw [if_pos (by omega), if_pos h2]
    · rw [if_neg (by omega), if_neg h2]
theorem spr_congr {n S S' : Int} {W P : List SV} {f g : Nat → Int} (h : Spr n S W f) (hl : W.length = P.length) (hS : S = S') (hw : ∀ q, q < P.length → wt W q = wt P q) (hf : ∀ q, q < P.length → f q = g q) : Spr n S' P g := by
  subst hS
  refine ⟨fun q hq => ?_, ?_⟩
  · have := h.1 q (by omega)
    rw [hf q hq, hw q hq] at this; exact this
  · rw [← sumF_congr hf, ← hl]; exact h.2
/-! Parted by rates. -/
theorem round_in {n m : Int} : n - 10000 < 10000 * roundS n 10000 m ∧ 10000 * roundS n 10000 m < n + 10000 ∧ (roundS n 10000 m = n / 10000 ∨ (roundS n 10000 m = n / 10000 + 1 ∧ 0 < n % 10000)) := by
  have e1 := Int.mul_ediv_add_emod n 10000
  have e2 := Int.emod_nonneg n (b := 10000) (by decide)
  have e3 := Int.emod_lt_of_pos n (b := 10000) (by decide)
  unfold roundS
  split
  · rename_i h
    exact ⟨by omega, by omega, .inr ⟨rfl, h.1⟩⟩
  · exact ⟨by omega, by omega, .inl rfl⟩
theorem partE_z {x r : Int} (hx : rightB x = true) (hr : 0 ≤ r ∧ r ≤ 10000) : partE x r = 0 ∧ partV x r = x * r := by
  have h : partE x r = 0 := by unfold partE; rw [if_pos hx, if_pos (rateB_iff.2 hr)]
  exact ⟨h, by unfold partV; rw [if_pos h]⟩
theorem takeE_z {x r mode : Int} (hx : rightB x = true) (hr : 0 ≤ r ∧ r ≤ 10000) (hm : 1 ≤ mode ∧ mode ≤ 6) : takeE x r mode = 0 ∧ takeV x r mode = roundS (x * r) 10000 mode := by
  have h : takeE x r mode = 0 := by unfold takeE; rw [if_pos (partE_z hx hr).1]; unfold rngE; rw [if_pos (modeB_iff.2 hm)]
  exact ⟨h, by unfold takeV; rw [if_pos h]⟩
/-- A part and a share of the same rate are at most a least coin apart. -/
theorem near_one {x r mode f : Int} (hx : rightB x = true) (hr : 0 ≤ r ∧ r ≤ 10000) (hm : 1 ≤ mode ∧ mode ≤ 6) (hf : f = (x.natAbs : Int) * r / 10000 ∨ f = (x.natAbs : Int) * r / 10000 + 1) :
    -1 ≤ (if x < 0 then -f else f) - takeV x r mode ∧ (if x < 0 then -f else f) - takeV x r mode ≤ 1 := by
  rw [(takeE_z hx hr hm).2]
  have hc := (round_in (n := x * r) (m := mode)).2.2
  generalize roundS (x * r) 10000 mode = c at hc
  by_cases h : x < 0
  · rw [if_pos h]
    have e : (x.natAbs : Int) = -x := by omega
    rw [e, Int.neg_mul] at hf
    generalize x * r = y at *
    omega
  · rw [if_neg h]
    have e : (x.natAbs : Int) = x := by omega
    rw [e] at hf
    generalize x * r = y at *
    omega
theorem coin_in {x mode : Int} {P : List SV} (hx : rightB x = true) (hm : 1 ≤ mode ∧ mode ≤ 6) : ∀ n, rtOk P n → -(9999 * (n : Int)) ≤ 10000 * coinS x mode P n - x * sumW P n ∧ 10000 * coinS x mode P n - x * sumW P n ≤ 9999 * (n : Int)
  | 0, _ => by simp [coinS, sumW]
  | n + 1, h => by
    obtain ⟨h1, h2⟩ := coin_in (x := x) (mode := mode) (P := P) hx hm n (fun q hq => h q (by omega))
    have hr := h n (by omega)
    have e := (takeE_z hx hr hm).2
    obtain ⟨r1, r2, _⟩ := round_in (n := x * wt P n) (m := mode)
    simp only [coinS, sumW, Int.mul_add]
    rw [e]
    omega
theorem sumW_in {P : List SV} : ∀ {n : Nat}, rtOk P n → 0 ≤ sumW P n ∧ sumW P n ≤ 10000 * (n : Int)
  | 0, _ => by simp [sumW]
  | n + 1, h => by
    have h1 := sumW_in (n := n) (P := P) (fun q hq => h q (by omega))
    have h2 := h n (by omega)
    simp only [sumW]
    omega
theorem xs_in {x s : Int} (hx : rightB x = true) (hs : 0 ≤ s ∧ s ≤ 300000) : -30000000000000000 ≤ x * s ∧ x * s ≤ 30000000000000000 := by
  have hx' := rightB_iff.1 hx
  have a := Int.mul_le_mul_of_nonneg_right (a := x) (b := 100000000000) (c := s) hx'.2 hs.1
  have b := Int.mul_le_mul_of_nonneg_right (a := -100000000000) (b := x) (c := s) hx'.1 hs.1
  omega
/-- The parts' sum. -/
theorem sumP_wt (L : List SV) : ∀ n, n ≤ L.length → sumP L n = sumF (wt L) n
  | 0, _ => by simp [sumP, sumF]
  | n + 1, h => by
    have h1 := ints_get L n (by omega)
    have hl := ints_length L
    have ih := sumP_wt L n (by omega)
    unfold sumP at ih ⊢
    rw [List.take_add_one, List.sum_append, ih, List.getElem?_eq_getElem (by omega)]
    rw [List.getD_eq_getElem?_getD, List.getElem?_eq_getElem (by omega)] at h1
    simp only [Option.getD_some] at h1
    simp only [Option.toList_some, List.sum_cons, List.sum_nil, Int.add_zero, sumF]
    rw [← h1]; rfl
theorem spr_sum {x S : Int} {P L : List SV} (hx : rightB x = true) (hS : 0 < S) (hP : ∀ q, q < P.length → 0 ≤ wt P q) (h : SprOK x S P L) : sumOk L L.length = true ∧ sumV L = x := by
  obtain ⟨hl, h1, h2⟩ := h
  have hx' := rightB_iff.1 hx
  have hf : ∀ q, q < L.length → ngF L (if x < 0 then L.length else 0) q = if x < 0 then -wt L q else wt L q := fun q hq => by
    unfold ngF
    by_cases hx0 : x < 0
    · rw [if_pos hx0, if_pos hx0, if_pos hq]
    · rw [if_neg hx0, if_neg hx0, if_neg (Nat.not_lt_zero _)]
  have h0 : ∀ q, q < L.length → 0 ≤ (if x < 0 then -wt L q else wt L q) := fun q hq => by
    rw [← hf q hq]
    have hn : 0 ≤ (x.natAbs : Int) * wt P q / S := Int.ediv_nonneg (Int.mul_nonneg (by omega) (hP q (by omega))) (Int.le_of_lt hS)
    have := h1 q (by omega)
    omega
  rw [← hl, sumF_congr hf] at h2
  have mono := fun i hi => sumF_mono h0 i L.length hi (Nat.le_refl _)
  have mono0 := fun i hi => sumF_mono h0 0 i (Nat.zero_le _) hi
  have hsg : ∀ i, sumF (fun q => if x < 0 then -wt L q else wt L q) i = if x < 0 then -sumF (wt L) i else sumF (wt L) i := fun i => by
    induction i with
    | zero => simp [sumF]
    | succ i ih =>
      simp only [sumF]
      rw [ih]
      split <;> omega
  have hpart : ∀ i, i ≤ L.length → -100000000000 ≤ sumF (wt L) i ∧ sumF (wt L) i ≤ 100000000000 := fun i hi => by
    have m1 := mono i hi
    have m2 := mono0 i hi
    rw [h2, hsg] at m1
    simp only [sumF] at m2
    rw [hsg] at m2
    split at m1 <;> rename_i hx0
    · rw [if_pos hx0] at m2; omega
    · rw [if_neg hx0] at m2; omega
  have hok : ∀ n, n ≤ L.length → sumOk L n = true := fun n => by
    induction n with
    | zero => intro _; rfl
    | succ n ih =>
      intro hn
      have e : (ints L).getD n 0 = wt L n := (ints_get L n (by omega)).symm
      simp only [sumOk]
      rw [ih (by omega), Bool.true_and, e, sumP_wt L n (by omega)]
      have p1 := hpart n (by omega)
      have p2 := hpart (n + 1) hn
      simp only [sumF] at p2
      have hw := h0 n (by omega)
      have hw2 : -100000000000 ≤ wt L n ∧ wt L n ≤ 100000000000 := by
        have m1 := mono (n + 1) hn
        have m0 := mono0 n (by omega)
        rw [h2] at m1
        generalize hF : (fun q => if x < 0 then -wt L q else wt L q) = F at m1 m0
        simp only [sumF] at m1 m0
        have e2 : F n = if x < 0 then -wt L n else wt L n := by rw [← hF]
        rw [← e2] at hw
        split at e2 <;> omega
      unfold addB
      rw [rightB_iff.2 p1, rightB_iff.2 hw2, rightB_iff.2 p2]; rfl
  refine ⟨hok _ (Nat.le_refl _), ?_⟩
  unfold sumV
  rw [if_pos (hok _ (Nat.le_refl _)), sumP_wt L _ (Nat.le_refl _)]
  rw [hsg] at h2
  split at h2 <;> omega
end Go.Rx

