/- Journals: the plain law. -/
import Derived.Test.YtcehjhdgdgkkgaaDoorPj
namespace Go.Rx
open Go.Proofs
set_option linter.unusedSimpArgs false
set_option linter.unusedVariables false

/-- A list of entries among others. -/
def ls (X : List SV) (i : Nat) : List SV := (elCell X i 0).toSl
def jM (n : Int) (la : List SV) (ck : Nat) (V lw : List SV) (cw : Nat) : List (Nat × Chunk) :=
  [(391005, .box jT [.mpp 3910021001, .int .i64 n, .osl 777 0]), (3910021001, .mp 26 .str (.int .i64) la ck), (777, .row 0 79 vcK V), (41, .mp 26 .str (.int .i64) lw cw)]
/-- What holds of a journal, and of what is wanted. -/
def jS (b : Nat) (la : List SV) (ck : Nat) (V lw : List SV) (cw : Nat) (W : List UInt8 → Option Int) : Prop :=
  V.length ≤ b ∧ bkOk la ck ∧ (∀ j, j < V.length → cl V j 0 = (j : Int) + 1 ∧ (vE V j).length ≤ 30 ∧ ckE (vE V j) = 0) ∧ (∀ k, balB la k = vSum V k V.length) ∧ (∀ k j, j ≤ V.length → rightB (vSum V k j) = true) ∧ Mp lw cw W ∧ ∀ k, (W k).getD 0 = balB la k
/-- What entering leaves. -/
def enP (V la : List SV) (ck : Nat) (l : List SV) (nn e : Int) (la' : List SV) (ck' : Nat) (V' : List SV) : Prop :=
  (e = 0 → nn = (V.length : Int) + 1 ∧ (∃ s, V' = V ++ [.agg [.int .i64 ((V.length : Int) + 1), .str s, .sl enK l]]) ∧ bkOk la' ck' ∧ (∀ k, balB la' k = balB la k + sumK l k l.length) ∧ ckE l = 0) ∧ (e ≠ 0 → nn = 0 ∧ V' = V ∧ la' = la ∧ ck' = ck)
structure JE where
  nn : Int
  e : Int
  n : Int
  la : List SV
  ck : Nat
  V : List SV
structure JX where
  n : Int
  la : List SV
  ck : Nat
  V : List SV
  lw : List SV
  cw : Nat
  W : List UInt8 → Option Int
def JX.M (x : JX) : List (Nat × Chunk) := jM x.n x.la x.ck x.V x.lw x.cw
def JX.S (x : JX) (b : Nat) : Prop := jS b x.la x.ck x.V x.lw x.cw x.W
def uA (U : List SV) (i : Nat) : Int := cl U i 0
def mvB (V : List SV) (k : List UInt8) (q : Nat) : Int := match q with
  | 0 => 0
  | q + 1 => ((mvL V k V.length).getD q (0, 0, 0)).2.2

theorem vcR_len (V : List SV) (n : Nat) : (vcR V n).length = n := by simp [vcR]
theorem vcR_next (V : List SV) (n : Nat) : vcR V n ++ [vcE V n] = vcR V (n + 1) := by unfold vcR; rw [List.range_succ, List.map_append]; rfl
theorem vcR_get (V : List SV) {n j : Nat} (h : j < n) : (elCell (vcR V n) j 2).toSl = vE V j := by
  have : (vcR V n).getD j .any = vcE V j := by simp [vcR, List.getD_eq_getElem?_getD, h]
  unfold elCell
  rw [this]; rfl
theorem elJ_lt {Q : List SV} {x : SV} {j c : Nat} (h : j < Q.length) : elCell (Q ++ [x]) j c = elCell Q j c := by
  have e : (Q ++ [x]).getD j .any = Q.getD j .any := by simp [List.getD_eq_getElem?_getD, List.getElem?_append_left h]
  unfold elCell; rw [e]
theorem elJ_at {Q : List SV} {x : SV} {c : Nat} : elCell (Q ++ [x]) Q.length c = x.cells.getD c .any := by
  have e : (Q ++ [x]).getD Q.length .any = x := by simp [List.getD_eq_getElem?_getD]
  unfold elCell; rw [e]
theorem vSum_app {V : List SV} {x : SV} {k : List UInt8} : ∀ {j : Nat}, j ≤ V.length → vSum (V ++ [x]) k j = vSum V k j
  | 0, _ => rfl
  | j + 1, h => by
    have e : vE (V ++ [x]) j = vE V j := by unfold vE; rw [elJ_lt (by omega)]
    simp only [vSum]
    rw [vSum_app (by omega), e]
theorem sumK_bd {l : List SV} {k : List UInt8} : ∀ {n : Nat}, (∀ i, i < n → rightB (cl l i 1) = true) → -(100000000000 * (n : Int)) ≤ sumK l k n ∧ sumK l k n ≤ 100000000000 * (n : Int)
  | 0, _ => by simp [sumK]
  | n + 1, h => by
    have ih := sumK_bd (k := k) (n := n) (fun i hi => h i (by omega))
    have h1 := rightB_iff.1 (h n (by omega))
    simp only [sumK]
    split <;> omega
theorem jS_len {b : Nat} {la : List SV} {ck : Nat} {V lw : List SV} {cw : Nat} {W : List UInt8 → Option Int} (h : jS b la ck V lw cw W) : V.length ≤ b := h.1
theorem jS_mono {b b' : Nat} {la : List SV} {ck : Nat} {V lw : List SV} {cw : Nat} {W : List UInt8 → Option Int} (h : jS b la ck V lw cw W) (hb : b ≤ b') : jS b' la ck V lw cw W := ⟨Nat.le_trans h.1 hb, h.2⟩
theorem jS_vOk {b : Nat} {la : List SV} {ck : Nat} {V lw : List SV} {cw : Nat} {W : List UInt8 → Option Int} (h : jS b la ck V lw cw W) (hb : b ≤ 1000) : vOk V := by
  obtain ⟨h1, h2, h3, h4, h5, h6, h7⟩ := h
  refine ⟨by omega, fun i hi => ⟨by have := (h3 i hi).2.1; omega, fun j hj => ((ckE_all (h3 i hi).2.2).1 j hj).1, fun k => h5 k (i + 1) (by omega)⟩⟩
theorem jS_enterV {b : Nat} {la : List SV} {ck : Nat} {V lw : List SV} {cw : Nat} {W : List UInt8 → Option Int} (h : jS b la ck V lw cw W) {l : List SV} (hl : l.length ≤ 30) {nn : Int} {la' : List SV} {ck' : Nat} {V' : List SV} (he : enP V la ck l nn 0 la' ck' V') :
    (V'.length ≤ b + 1 ∧ bkOk la' ck' ∧ (∀ j, j < V'.length → cl V' j 0 = (j : Int) + 1 ∧ (vE V' j).length ≤ 30 ∧ ckE (vE V' j) = 0) ∧ (∀ k, balB la' k = vSum V' k V'.length) ∧ (∀ k j, j ≤ V'.length → rightB (vSum V' k j) = true)) ∧ V'.length = V.length + 1 := by
  obtain ⟨h1, h2, h3, h4, h5, h6, h7⟩ := h
  obtain ⟨_, ⟨s, rfl⟩, e3, e4, e5⟩ := he.1 rfl
  have hlen : (V ++ [SV.agg [.int .i64 ((V.length : Int) + 1), .str s, .sl enK l]]).length = V.length + 1 := by simp
  have hE : vE (V ++ [SV.agg [.int .i64 ((V.length : Int) + 1), .str s, .sl enK l]]) V.length = l := by unfold vE; rw [elJ_at]; rfl
  have hs : ∀ k, vSum (V ++ [SV.agg [.int .i64 ((V.length : Int) + 1), .str s, .sl enK l]]) k (V.length + 1) = balB la' k := fun k => by
    simp only [vSum]
    rw [vSum_app (Nat.le_refl _), hE, e4, h4]
  refine ⟨⟨by omega, e3, fun j hj => ?_, fun k => by rw [hlen, hs], fun k j hj => ?_⟩, hlen⟩
  · by_cases hj2 : j < V.length
    · have e : vE (V ++ [SV.agg [.int .i64 ((V.length : Int) + 1), .str s, .sl enK l]]) j = vE V j := by unfold vE; rw [elJ_lt hj2]
      have e0 : cl (V ++ [SV.agg [.int .i64 ((V.length : Int) + 1), .str s, .sl enK l]]) j 0 = cl V j 0 := by unfold cl; rw [elJ_lt hj2]
      rw [e, e0]; exact h3 j hj2
    · have ej : j = V.length := by omega
      subst ej
      rw [hE]
      refine ⟨?_, hl, e5⟩
      unfold cl; rw [elJ_at]; rfl
  · by_cases hj2 : j ≤ V.length
    · rw [vSum_app hj2]; exact h5 k j hj2
    · have ej : j = V.length + 1 := by omega
      subst ej
      rw [hs]; exact (e3.2 k).1
theorem vOk_enter {b : Nat} {la : List SV} {ck : Nat} {V lw : List SV} {cw : Nat} {W : List UInt8 → Option Int} (h : jS b la ck V lw cw W) (hb : b ≤ 900) {l : List SV} (hl : l.length ≤ 30) {nn : Int} {la' : List SV} {ck' : Nat} {V' : List SV} (he : enP V la ck l nn 0 la' ck' V') : vOk V' := by
  obtain ⟨⟨h1, h2, h3, h4, h5⟩, _⟩ := jS_enterV h hl he
  exact ⟨by omega, fun i hi => ⟨by have := (h3 i hi).2.1; omega, fun j hj => ((ckE_all (h3 i hi).2.2).1 j hj).1, fun k => h5 k (i + 1) (by omega)⟩⟩
theorem jS_enter {b : Nat} {la : List SV} {ck : Nat} {V lw : List SV} {cw : Nat} {W : List UInt8 → Option Int} (h : jS b la ck V lw cw W) {l : List SV} (hl : l.length ≤ 30) {nn : Int} {la' : List SV} {ck' : Nat} {V' : List SV} (he : enP V la ck l nn 0 la' ck' V')
    {lw' : List SV} {cw' : Nat} {W' : List UInt8 → Option Int} (hW : Mp lw' cw' W') (hw : ∀ k, (W' k).getD 0 = balB la k + sumK l k l.length) : jS (b + 1) la' ck' V' lw' cw' W' ∧ V'.length = V.length + 1 := by
  obtain ⟨⟨h1, h2, h3, h4, h5⟩, hlen⟩ := jS_enterV h hl he
  exact ⟨⟨h1, h2, h3, h4, h5, hW, fun k => by rw [hw, (he.1 rfl).2.2.2.1]⟩, hlen⟩
theorem po_two {B : List UInt8 → Int} {l : List SV} (h : ckE l = 0) : poE B l = 0 ∨ poE B l = 10 := by
  unfold poE
  rw [if_neg (by omega)]
  split
  · exact .inr rfl
  · exact .inl rfl
theorem poE_zero {B : List UInt8 → Int} {l : List SV} (h : poE B l = 0) : ckE l = 0 := by
  unfold poE at h
  split at h
  · contradiction
  · rename_i h0; omega
/-- What an entering's last step leaves. -/
theorem en_of {n : Int} {la : List SV} {ck : Nat} {l : List SV} {e n' : Int} {la' : List SV} {ck' : Nat} (hb : bkOk la ck) (hq : postR n la ck [.sl enK l] e n' la' ck') {V : List SV} {s : List UInt8} :
    (e ≠ 0 → enP V la ck l 0 e la' ck' V) ∧ (e = 0 → enP V la ck l ((V.length : Int) + 1) 0 la' ck' (V ++ [.agg [.int .i64 ((V.length : Int) + 1), .str s, .sl enK l]])) ∧ e = poE (balB la) l := by
  obtain ⟨l', hl', q1, q2, q3⟩ := hq
  have : l' = l := by cases hl'; rfl
  subst this
  refine ⟨fun h => ⟨fun h' => absurd h' h, fun _ => ?_⟩, fun h => ⟨fun _ => ?_, fun h' => absurd rfl h'⟩, q1⟩
  · obtain ⟨_, r2, r3⟩ := q2 h
    exact ⟨rfl, rfl, r2, r3⟩
  · obtain ⟨_, r2, r3, _⟩ := q3 h
    exact ⟨rfl, ⟨s, rfl⟩, r2, r3, poE_zero (q1.symm.trans h)⟩
theorem en_bad {V la : List SV} {ck : Nat} {l : List SV} {e : Int} (h : e ≠ 0) : enP V la ck l 0 e la ck V := ⟨fun h' => absurd h' h, fun _ => ⟨rfl, rfl, rfl, rfl⟩⟩
/-- What is wanted, an entry on. -/
theorem w_next {lw : List SV} {cw : Nat} {W : List UInt8 → Option Int} (h : Mp lw cw W) {k0 : List UInt8} {v : Int} : Mp (mpPut lw cw (.str k0) (.int .i64 v)) (mpCk lw cw (.str k0)) (updF W k0 (some v)) := Mp_put h k0 v
theorem w_get {lw : List SV} {cw : Nat} {W : List UInt8 → Option Int} (h : Mp lw cw W) (k0 : List UInt8) : (mpV lw (.str k0)).toInt = (W k0).getD 0 := Mp_int h k0
theorem w_add {la : List SV} {W : List UInt8 → Option Int} {l : List SV} {j : Nat} (hr : ∀ k, rightB (balB la k) = true) (ha : ∀ i, i < l.length → rightB (cl l i 1) = true) (hl : l.length ≤ 30) (hj : j < l.length) (hW : ∀ k, (W k).getD 0 = balB la k + sumK l k j) :
    ∀ k, (updF W (ac l j) (some (IntKind.i64.wrap ((W (ac l j)).getD 0 + cl l j 1))) k).getD 0 = balB la k + sumK l k (j + 1) := by
  intro k
  unfold updF
  simp only [sumK]
  by_cases e : k = ac l j
  · subst e
    rw [if_pos rfl, if_pos rfl, hW, Option.getD_some]
    have h1 := sumK_bd (l := l) (k := ac l j) (n := j) (fun i hi => ha i (by omega))
    have h2 := rightB_iff.1 (hr (ac l j))
    have h3 := rightB_iff.1 (ha j hj)
    rw [wrapI (by omega)]; omega
  · rw [if_neg e, if_neg (fun h => e h.symm), hW, Int.add_zero]
theorem w_sub {la : List SV} {W : List UInt8 → Option Int} {l : List SV} {j : Nat} (hr : ∀ k, rightB (balB la k) = true) (ha : ∀ i, i < l.length → rightB (cl l i 1) = true) (hl : l.length ≤ 30) (hj : j < l.length) (hW : ∀ k, (W k).getD 0 = balB la k - sumK l k j) :
    ∀ k, (updF W (ac l j) (some (IntKind.i64.wrap ((W (ac l j)).getD 0 - cl l j 1))) k).getD 0 = balB la k - sumK l k (j + 1) := by
  intro k
  unfold updF
  simp only [sumK]
  by_cases e : k = ac l j
  · subst e
    rw [if_pos rfl, if_pos rfl, hW, Option.getD_some]
    have h1 := sumK_bd (l := l) (k := ac l j) (n := j) (fun i hi => ha i (by omega))
    have h2 := rightB_iff.1 (hr (ac l j))
    have h3 := rightB_iff.1 (ha j hj)
    rw [wrapI (by omega)]; omega
  · rw [if_neg e, if_neg (fun h => e h.symm), hW, Int.add_zero]
/-- Entries with the other sign. -/
theorem bk2_neg {l : List SV} (ha : ∀ i, i < l.length → rightB (cl l i 1) = true) {i : Nat} (hi : i < l.length) : cl (bk2 l) i 1 = -cl l i 1 := by
  have h := rightB_iff.1 (ha i hi)
  rw [bk2_cl hi, neg_in (by unfold in64; omega) (by omega)]
theorem sumK_bk2 {l : List SV} (ha : ∀ i, i < l.length → rightB (cl l i 1) = true) {k : List UInt8} : ∀ {n : Nat}, n ≤ l.length → sumK (bk2 l) k n = -sumK l k n
  | 0, _ => by simp [sumK]
  | n + 1, h => by
    simp only [sumK]
    rw [sumK_bk2 ha (by omega), bk2_ac (by omega), bk2_neg ha (by omega)]
    split <;> omega
theorem ck_bk2 {l : List SV} (h : ckE l = 0) : ckE (bk2 l) = 0 :=
  ck_neg (bk2_len l) (fun j hj => ⟨bk2_ac hj, bk2_neg (fun i hi => ((ckE_all h).1 i hi).1) hj⟩) h
/-- The note of what is undone. -/
theorem undo_note {n : Int} (h1 : 1 ≤ n) (h2 : n ≤ 99) : quoE ([117, 110, 100, 111, 32] ++ Lib.itoa n) = 0 ∧ ([117, 110, 100, 111, 32] ++ Lib.itoa n).length ≤ 64 := by
  obtain ⟨f1, _, f3, _⟩ := dec_factsM 2 n.toNat (by omega)
  have hi : Lib.itoa n = Lib.decDigits n.toNat := by unfold Lib.itoa; rw [if_neg (by omega)]
  rw [hi]
  refine ⟨?_, by rw [List.length_append]; simp only [List.length_cons, List.length_nil]; omega⟩
  have ha : ([117, 110, 100, 111, 32] ++ Lib.decDigits n.toNat).all shwB = true := by
    rw [List.all_append, Bool.and_eq_true]
    refine ⟨by decide, ?_⟩
    rw [List.all_eq_true] at f1 ⊢
    intro c hc
    have := dgM_iff.1 (f1 c hc)
    unfold shwB
    simp only [Bool.and_eq_true, decide_eq_true_eq, Bool.not_eq_true', decide_eq_false_iff_not]
    omega
  unfold quoE; rw [if_pos ha]
/-- The moves on an account. -/
def bl3 (m : List (Int × Int × Int)) : Nat → Int
  | 0 => 0
  | q + 1 => (m.getD q (0, 0, 0)).2.2
theorem bl3_app {m : List (Int × Int × Int)} {x : Int × Int × Int} {q : Nat} (h : q ≤ m.length) : bl3 (m ++ [x]) q = bl3 m q := by
  cases q with
  | zero => rfl
  | succ q => simp only [bl3]; rw [List.getD_eq_getElem?_getD, List.getElem?_append_left (by omega), ← List.getD_eq_getElem?_getD]
theorem mv_facts {V : List SV} {k : List UInt8} (hn : ∀ j, j < V.length → cl V j 0 = (j : Int) + 1) : ∀ i, i ≤ V.length → (mvL V k i).length ≤ i ∧ bl3 (mvL V k i) (mvL V k i).length = vSum V k i ∧
    (∀ q, q < (mvL V k i).length → ((mvL V k i).getD q (0, 0, 0)).2.2 = bl3 (mvL V k i) q + ((mvL V k i).getD q (0, 0, 0)).2.1 ∧ (1 ≤ ((mvL V k i).getD q (0, 0, 0)).1 ∧ ((mvL V k i).getD q (0, 0, 0)).1 ≤ i) ∧ ∃ j, j < V.length ∧ ((mvL V k i).getD q (0, 0, 0)).2.2 = vSum V k (j + 1)) ∧
    ∀ q, q + 1 < (mvL V k i).length → ((mvL V k i).getD q (0, 0, 0)).1 < ((mvL V k i).getD (q + 1) (0, 0, 0)).1 := by
  intro i
  induction i with
  | zero => intro _; exact ⟨Nat.le_refl _, rfl, fun q h => absurd h (Nat.not_lt_zero _), fun q h => absurd h (Nat.not_lt_zero _)⟩
  | succ i ih =>
    intro hi
    obtain ⟨h1, h2, h3, h4⟩ := ih (by omega)
    simp only [mvL]
    by_cases hk : hasK (vE V i) k (vE V i).length = true
    · rw [if_pos hk]
      generalize mvL V k i = m at h1 h2 h3 h4 ⊢
      have hlt : ∀ q, q < m.length → (m ++ [(cl V i 0, sumK (vE V i) k (vE V i).length, vSum V k (i + 1))]).getD q (0, 0, 0) = m.getD q (0, 0, 0) := fun q hq => by
        rw [List.getD_eq_getElem?_getD, List.getElem?_append_left hq, ← List.getD_eq_getElem?_getD]
      have hat : (m ++ [(cl V i 0, sumK (vE V i) k (vE V i).length, vSum V k (i + 1))]).getD m.length (0, 0, 0) = (cl V i 0, sumK (vE V i) k (vE V i).length, vSum V k (i + 1)) := by simp [List.getD_eq_getElem?_getD]
      have hc := hn i (by omega)
      refine ⟨by simp; omega, ?_, fun q hq => ?_, fun q hq => ?_⟩
      · rw [List.length_append, List.length_singleton]
        simp only [bl3]; rw [hat]
      · rw [List.length_append, List.length_singleton] at hq
        by_cases hq2 : q < m.length
        · rw [hlt q hq2, bl3_app (by omega)]
          obtain ⟨a, b, c⟩ := h3 q hq2
          exact ⟨a, ⟨b.1, by omega⟩, c⟩
        · have eq : q = m.length := by omega
          subst eq
          rw [hat, bl3_app (Nat.le_refl _), h2]
          exact ⟨rfl, ⟨by dsimp only; omega, by dsimp only; omega⟩, i, by omega, rfl⟩
      · rw [List.length_append, List.length_singleton] at hq
        by_cases hq2 : q + 1 < m.length
        · rw [hlt q (by omega), hlt (q + 1) hq2]; exact h4 q hq2
        · have eq : q + 1 = m.length := by omega
          rw [hlt q (by omega), eq, hat]
          have := (h3 q (by omega)).2.1.2
          dsimp only; omega
    · rw [if_neg hk]
      have hz : sumK (vE V i) k (vE V i).length = 0 := sumK_no (by simpa using hk)
      refine ⟨by omega, by rw [h2]; simp only [vSum]; omega, fun q hq => ?_, h4⟩
      obtain ⟨a, b, c⟩ := h3 q hq
      exact ⟨a, ⟨b.1, by omega⟩, c⟩
theorem mvR_len (V : List SV) (k : List UInt8) (i : Nat) : (mvR V k i).length = (mvL V k i).length := by simp [mvR]
theorem mvR_get {V : List SV} {k : List UInt8} {i q : Nat} (h : q < (mvL V k i).length) : (mvR V k i).getD q .any = mvE ((mvL V k i).getD q (0, 0, 0)) := by
  unfold mvR; exact getD_map mvE _ q (0, 0, 0) .any h
theorem mvR_next {V : List SV} {k : List UInt8} {i : Nat} (h : hasK (vE V i) k (vE V i).length = true) : mvR V k i ++ [.agg [.int .i64 (cl V i 0), .int .i64 (sumK (vE V i) k (vE V i).length), .int .i64 (vSum V k (i + 1))]] = mvR V k (i + 1) := by
  unfold mvR
  conv => rhs; unfold mvL
  rw [if_pos h, List.map_append]; rfl
theorem mvR_same {V : List SV} {k : List UInt8} {i : Nat} (h : hasK (vE V i) k (vE V i).length = false) : mvR V k i = mvR V k (i + 1) := by
  unfold mvR
  conv => rhs; unfold mvL
  rw [if_neg (by rw [h]; decide)]
theorem mvB_eq (V : List SV) (k : List UInt8) (q : Nat) : mvB V k q = bl3 (mvL V k V.length) q := by cases q <;> rfl
end Go.Rx

