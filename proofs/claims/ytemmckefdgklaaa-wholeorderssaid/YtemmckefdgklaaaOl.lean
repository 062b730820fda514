/- What orders take, and owe: the plain law. -/
import Derived.Test.YtemmckefdgklaaaIn
import Derived.Test.YtemmckefdgklaaaMp
namespace Go.Rx
open Go.Proofs
set_option linter.unusedSimpArgs false
set_option linter.unusedVariables false

def noId (l : List SV) (k : Int) (i : Nat) : Prop := ∀ j, j < i → oc l j 0 ≠ k
/-- What a book holds when the first i of the orders have taken. -/
def Tk (L l X : List SV) (i : Nat) : Prop :=
  X.length = L.length ∧ (∀ q, q < L.length → (X.getD q .any).cells.length = 7) ∧ ∀ q, q < L.length → (∀ k, k < 5 → oc X q k = oc L q k) ∧ oc X q 5 = (if q < i then oc L q 5 + oc l q 4 else oc L q 5) ∧ oc X q 6 = (if q < i then oc l q 5 else oc L q 6) ∧ (q < i → rightB (oc X q 5) = true ∧ rightB (oc X q 6) = true)
def Mt (L l : List SV) : Prop := l.length = L.length ∧ L.length ≤ 8 ∧ (∀ q, q < L.length → oc l q 0 = oc L q 0) ∧ ∀ q r, q < L.length → r < L.length → oc L q 0 = oc L r 0 → q = r
/-- A book of orders that have taken nothing yet. -/
def New (L : List SV) : Prop := L.length ≤ 8 ∧ (∀ q, q < L.length → (L.getD q .any).cells.length = 7 ∧ ordE (oc L q 0) (oc L q 1) (oc L q 2) (oc L q 3) (oc L q 4) = 0 ∧ oc L q 5 = 0 ∧ oc L q 6 = 0) ∧ ∀ q r, q < L.length → r < L.length → oc L q 0 = oc L r 0 → q = r
/-- .. and what they took. -/
def Gd (L : List SV) (f : Int → Option Int) (i : Nat) : Prop := L.length ≤ 8 ∧ i ≤ 40 ∧
  (∀ q, q < L.length → (L.getD q .any).cells.length = 7 ∧ ordE (oc L q 0) (oc L q 1) (oc L q 2) (oc L q 3) (oc L q 4) = 0 ∧ 0 ≤ oc L q 5 ∧ oc L q 5 ≤ 100000000000 ∧ 0 ≤ oc L q 6 ∧ oc L q 6 ≤ 100000000000 ∧
    (0 < oc L q 4 → oc L q 5 + oc L q 6 ≤ oc L q 4) ∧ (f (oc L q 0)).getD 0 = oc L q 5 + oc L q 6) ∧ ∀ q r, q < L.length → r < L.length → oc L q 0 = oc L r 0 → q = r
/-- In the midst of a period: what the first j ordered is put to what they ordered in all. -/
def Md (L l X : List SV) (f g : Int → Option Int) (net prt : Int) (i j : Nat) : Prop :=
  Gd L f i ∧ Tk L l X L.length ∧ l = srL L net prt L.length ∧ srE L net L.length = 0 ∧ ∀ q, q < L.length → (g (oc L q 0)).getD 0 = (f (oc L q 0)).getD 0 + if q < j then oc l q 2 else 0
def mkF (M : List SV) : Int → Option Int := fun k => if mpHas M (.int .i64 k) = true then some (mpV M (.int .i64 k)).toInt else none
/-- A book in a period: what it holds then, what it took, what is left. -/
def Pd (L l X : List SV) (left e net prt : Int) : Prop := (-1000000000 ≤ net ∧ net ≤ 1000000000) ∧ (e = 0 ∨ e = 10) ∧ (e = 0 → l = srL L net prt L.length ∧ srE L net L.length = 0 ∧ left = srT L net prt L.length ∧ Tk L l X L.length)

theorem right1 {x : Int} : rightL [.int .i64 x] = rightB x := by simp [rightL, ints, elCell, SV.cells, SV.toInt]
theorem bsG_le (L : List SV) (pr id : Int) : ∀ f i j, i ≤ j → bsG L pr id f i j ≤ j
  | 0, i, j, h => h
  | f + 1, i, j, h => by
    unfold bsG
    split
    · split
      · exact bsG_le L pr id f _ _ (by omega)
      · exact Nat.le_trans (bsG_le L pr id f _ _ (by omega)) (by omega)
    · exact h
theorem bsI_le (L : List SV) (pr id : Int) : bsI L pr id ≤ L.length := bsG_le L pr id _ _ _ (Nat.zero_le _)
theorem ordE_ok {id pr am rt to : Int} (h : ordE id pr am rt to = 0) : rightB am = true ∧ rightB to = true ∧ 0 ≤ am ∧ 0 ≤ to ∧ rateB rt = true := by
  unfold ordE at h
  split at h
  · cases h
  · split at h
    · cases h
    · rename_i h2
      split at h
      · cases h
      · split at h
        · cases h
        · rename_i h3 h4
          simp only [Bool.and_eq_false_iff, not_or, Bool.not_eq_false] at h2 h4
          exact ⟨h2.1, h2.2, by omega, by omega, h4⟩
theorem getD_ins (L : List SV) (s : SV) (p q : Nat) (hp : p ≤ L.length) : (L.take p ++ [s] ++ L.drop p).getD q .any = if q < p then L.getD q .any else if q = p then s else L.getD (q - 1) .any := by
  rw [List.getD_eq_getElem?_getD, ins_get L [s] p q hp]
  by_cases h1 : q < p
  · rw [if_pos h1, if_pos h1, List.getD_eq_getElem?_getD]
  · rw [if_neg h1, if_neg h1]
    by_cases h2 : q = p
    · rw [if_pos (by simp; omega), if_pos h2, show q - p = 0 by omega]; rfl
    · rw [if_neg (by simp; omega), if_neg h2, List.getD_eq_getElem?_getD]; rfl
theorem new_ins {L : List SV} {id pr am rt to : Int} {p : Nat} (h : New L) (h8 : L.length ≠ 8) (hp : p ≤ L.length) (ho : ordE id pr am rt to = 0) (hn : noId L id L.length) :
    New (L.take p ++ [.agg [.int .i64 id, .int .i64 pr, .int .i64 am, .int .i64 rt, .int .i64 to, .int .i64 0, .int .i64 0]] ++ L.drop p) := by
  obtain ⟨h1, h2, h3⟩ := h
  have hl : ∀ s : SV, (L.take p ++ [s] ++ L.drop p).length = L.length + 1 := fun s => by simp only [List.length_append, List.length_take, List.length_drop, List.length_singleton]; omega
  generalize hs : SV.agg [.int .i64 id, .int .i64 pr, .int .i64 am, .int .i64 rt, .int .i64 to, .int .i64 0, .int .i64 0] = s
  have hc : ∀ q k, oc (L.take p ++ [s] ++ L.drop p) q k = if q < p then oc L q k else if q = p then (s.cells.getD k .any).toInt else oc L (q - 1) k := fun q k => by
    unfold oc elCell
    rw [getD_ins L s p q hp]
    by_cases h1 : q < p
    · rw [if_pos h1, if_pos h1]
    · rw [if_neg h1, if_neg h1]
      by_cases h2 : q = p
      · rw [if_pos h2, if_pos h2]
      · rw [if_neg h2, if_neg h2]
  refine ⟨by rw [hl]; omega, fun q hq => ?_, fun q r hq hr he => ?_⟩
  · rw [hl] at hq
    rw [getD_ins L s p q hp]
    simp only [hc]
    by_cases c1 : q < p
    · simp only [if_pos c1]; exact h2 q (by omega)
    · simp only [if_neg c1]
      by_cases c2 : q = p
      · simp only [if_pos c2]; subst hs; exact ⟨rfl, ho, rfl, rfl⟩
      · simp only [if_neg c2]; exact h2 (q - 1) (by omega)
  · rw [hl] at hq hr
    have hsid : (s.cells.getD 0 .any).toInt = id := by subst hs; rfl
    rw [hc, hc, hsid] at he
    by_cases c1 : q < p
    · rw [if_pos c1] at he
      by_cases d1 : r < p
      · rw [if_pos d1] at he; exact h3 q r (by omega) (by omega) he
      · rw [if_neg d1] at he
        by_cases d2 : r = p
        · rw [if_pos d2] at he; exact absurd he (hn q (by omega))
        · rw [if_neg d2] at he
          have := h3 q (r - 1) (by omega) (by omega) he; omega
    · rw [if_neg c1] at he
      by_cases c2 : q = p
      · rw [if_pos c2] at he
        by_cases d1 : r < p
        · rw [if_pos d1] at he; exact absurd he.symm (hn r (by omega))
        · rw [if_neg d1] at he
          by_cases d2 : r = p
          · omega
          · rw [if_neg d2] at he; exact absurd he.symm (hn (r - 1) (by omega))
      · rw [if_neg c2] at he
        by_cases d1 : r < p
        · rw [if_pos d1] at he
          have := h3 (q - 1) r (by omega) (by omega) he; omega
        · rw [if_neg d1] at he
          by_cases d2 : r = p
          · rw [if_pos d2] at he; exact absurd he (hn (q - 1) (by omega))
          · rw [if_neg d2] at he
            have := h3 (q - 1) (r - 1) (by omega) (by omega) he; omega
theorem mkF_eq {M : List SV} {ck : Nat} {f : Int → Option Int} (h : Mp M ck f) : mkF M = f := by
  funext k
  have h1 : mpHas M (.int .i64 k) = (f k).isSome := Mp_has h k
  have h2 : (mpV M (.int .i64 k)).toInt = (f k).getD 0 := Mp_int h k
  unfold mkF
  rw [h1, h2]
  cases f k <;> rfl
theorem gd_new {L : List SV} (h : New L) : Gd L (mkF []) 0 ∧ Mp [] 0 (mkF []) := by
  have e : mkF [] = fun _ => none := mkF_eq Mp_nil
  rw [e]
  refine ⟨⟨h.1, by omega, fun q hq => ?_, h.2.2⟩, Mp_nil⟩
  obtain ⟨h1, h2, h3, h4⟩ := h.2.1 q hq
  obtain ⟨_, _, _, h5, _⟩ := ordE_ok h2
  refine ⟨h1, h2, by omega, by omega, by omega, by omega, by omega, ?_⟩
  show 0 = _
  omega
theorem gd_bnd {L : List SV} {f : Int → Option Int} {i : Nat} (h : Gd L f i) : L.length ≤ 1000 ∧ bndL L := by
  refine ⟨by have := h.1; omega, fun q hq => ?_⟩
  obtain ⟨h1, h2, h3, h4, h5, h6, _⟩ := h.2.2.1 q hq
  obtain ⟨_, h7, _, h8, _⟩ := ordE_ok h2
  have := rightB_iff.1 h7
  unfold bigO
  omega
theorem takeE_in (x r : Int) (h : rateB r = true) : takeE x r 1 = 0 ∨ takeE x r 1 = 10 := by
  unfold takeE partE
  rw [h]
  cases rightB x
  · exact .inr rfl
  · exact .inl rfl
theorem chkE_in (b : Bool) : chkE b = 0 ∨ chkE b = 10 := by cases b <;> simp [chkE]
theorem sE_in {L : List SV} {net : Int} {i : Nat} (h : rateB (oc L i 3) = true) : sE L net i = 0 ∨ sE L net i = 10 := by
  unfold sE oneE
  split
  · exact .inr rfl
  · split
    · unfold oE
      split
      · exact takeE_in _ _ h
      · exact chkE_in _
    · exact chkE_in _
theorem srE_in {L : List SV} {net : Int} {n : Nat} (h : ∀ q, q < n → rateB (oc L q 3) = true) : srE L net n = 0 ∨ srE L net n = 10 := by
  induction n with
  | zero => exact .inl rfl
  | succ n ih =>
    simp only [srE]
    split
    · exact ih fun q hq => h q (by omega)
    · exact sE_in (h n (by omega))
theorem srE_all {L : List SV} {net : Int} : ∀ {n : Nat}, srE L net n = 0 → ∀ q, q < n → sE L net q = 0
  | 0, _, q, hq => absurd hq (Nat.not_lt_zero _)
  | n + 1, h, q, hq => by
    simp only [srE] at h
    split at h
    · rename_i h1; exact absurd h h1
    · rename_i h1
      rcases Nat.lt_or_ge q n with h2 | h2
      · exact srE_all (by omega) q h2
      · rw [show q = n by omega]; exact h
/-- What one order orders: no less than nothing, no more than is left of it. -/
theorem oV_in {am rt to tk ar net : Int} (hr : rateB rt = true) (h0 : 0 ≤ am) (hto : 0 ≤ to) : 0 ≤ oV am rt to tk ar net ∧ oV am rt to tk ar net ≤ 100000000000 ∧ oV am rt to tk ar net ≤ leftO to tk ar := by
  have hl : 0 ≤ leftO to tk ar := by unfold leftO maxV; split <;> (try split) <;> omega
  unfold oV
  split
  · rename_i he
    have hadd : addB am (takeV (maxV 0 net) rt 1) = true := by
      unfold oE at he
      split at he
      · rename_i h1; exact absurd he h1
      · exact chkE_z.1 he
    rw [addV_ok hadd]
    have hsum := rightB_iff.1 (addB_iff.1 hadd).2
    have ht : 0 ≤ takeV (maxV 0 net) rt 1 := by
      unfold takeV
      split
      · have hr' := rateB_iff.1 hr
        have hm : 0 ≤ maxV 0 net := by unfold maxV; split <;> omega
        have hx : 0 ≤ maxV 0 net * rt := Int.mul_nonneg hm hr'.1
        have hd : 0 ≤ maxV 0 net * rt / 10000 := Int.ediv_nonneg hx (by decide)
        unfold roundS
        split
        · omega
        · exact hd
      · omega
    unfold minV
    split <;> omega
  · omega

section
variable {L : List SV} {net prt : Int} {f : Int → Option Int} {i : Nat}
def oO (L : List SV) (net : Int) (q : Nat) : Int := oV (oc L q 2) (oc L q 3) (oc L q 4) (oc L q 5) (oc L q 6) net
def oD (L : List SV) (net : Int) (q : Nat) : Int := oO L net q + oc L q 6
def oT (L : List SV) (net prt : Int) (q : Nat) : Int := sT L net q (maxV 0 (srT L net prt q - prt))
theorem srL_get (n q : Nat) (hq : q < n) : (srL L net prt n).getD q .any = srX L net prt q := by
  unfold srL
  rw [List.getD_eq_getElem?_getD, List.getElem?_map, List.getElem?_range hq]; rfl
theorem srl_oc {n q : Nat} (hq : q < n) (h : sE L net q = 0) : (oc (srL L net prt n) q 0 = oc L q 0 ∧ oc (srL L net prt n) q 1 = oc L q 6 ∧ oc (srL L net prt n) q 2 = oO L net q ∧ oc (srL L net prt n) q 3 = oD L net q ∧
    oc (srL L net prt n) q 4 = oT L net prt q ∧ oc (srL L net prt n) q 5 = oD L net q - oT L net prt q) ∧ ∀ k, 6 ≤ k → oc (srL L net prt n) q k = 0 := by
  have hz : ∀ v, zE (oneE (oc L q 2) (oc L q 3) (oc L q 4) (oc L q 5) (oc L q 6) net) v = v := fun v => by
    unfold zE; exact if_pos h
  have e : ∀ k, oc (srL L net prt n) q k = ((srX L net prt q).cells.getD k .any).toInt := fun k => by
    unfold oc elCell; rw [srL_get n q hq]
  simp only [e]
  unfold srX oneX
  simp only [hz]
  refine ⟨⟨rfl, rfl, rfl, rfl, rfl, rfl⟩, fun k hk => ?_⟩
  match k, hk with
  | k + 6, _ => rfl
theorem o_in (h : Gd L f i) {q : Nat} (hq : q < L.length) : 0 ≤ oO L net q ∧ oO L net q ≤ 100000000000 ∧ oO L net q ≤ leftO (oc L q 4) (oc L q 5) (oc L q 6) := by
  obtain ⟨h1, h2, h3, h4, h5, h6, _⟩ := h.2.2.1 q hq
  obtain ⟨_, _, h7, h8, h9⟩ := ordE_ok h2
  exact oV_in h9 h7 h8
theorem t_in (h : Gd L f i) {q : Nat} (hq : q < L.length) (he : sE L net q = 0) : 0 ≤ oT L net prt q ∧ oT L net prt q ≤ oD L net q ∧ oT L net prt q ≤ maxV 0 (srT L net prt q - prt) ∧ 0 ≤ oD L net q ∧ oD L net q ≤ 100000000000 ∧
    (oT L net prt q < oD L net q → oT L net prt q = maxV 0 (srT L net prt q - prt)) := by
  have h1 := o_in (net := net) h hq
  obtain ⟨_, _, _, _, h5, h6, _⟩ := h.2.2.1 q hq
  have hd := rightB_iff.1 (sE_ok he).2.2
  have ed : dueO (oc L q 2) (oc L q 3) (oc L q 4) (oc L q 5) (oc L q 6) net = oD L net q := rfl
  rw [ed] at hd
  have hD : 0 ≤ oD L net q := by unfold oD; omega
  have hf : 0 ≤ maxV 0 (srT L net prt q - prt) := by unfold maxV; split <;> omega
  unfold oT sT tknO
  rw [ed]
  generalize oD L net q = D at *
  generalize maxV 0 (srT L net prt q - prt) = F at *
  unfold maxV minV
  refine ⟨?_, ?_, ?_, hD, hd.2, ?_⟩ <;> (repeat' split) <;> omega
theorem srT_in (h : Gd L f i) (he : srE L net L.length = 0) : ∀ n, n ≤ L.length → srT L net prt n ≤ net ∧ (prt ≤ net → prt ≤ srT L net prt n) ∧ (net < prt → srT L net prt n = net)
  | 0, _ => ⟨Int.le_refl _, fun h => h, fun _ => rfl⟩
  | n + 1, hn => by
    obtain ⟨h1, h2, h3⟩ := srT_in h he n (by omega)
    obtain ⟨t1, _, t3, _⟩ := t_in (prt := prt) h (q := n) (by omega) (srE_all he n (by omega))
    have e : srT L net prt (n + 1) = srT L net prt n - oT L net prt n := rfl
    rw [e]
    unfold maxV at t3
    split at t3 <;> exact ⟨by omega, fun hh => by have := h2 hh; omega, fun hh => by have := h3 hh; omega⟩
theorem col_eq (h : Gd L f i) (he : srE L net L.length = 0) : ∀ n, n ≤ L.length → colS (srL L net prt L.length) 4 n = net - srT L net prt n
  | 0, _ => by simp [colS, srT]
  | n + 1, hn => by
    have e : srT L net prt (n + 1) = srT L net prt n - oT L net prt n := rfl
    have e2 := (srl_oc (prt := prt) (n := L.length) (q := n) (by omega) (srE_all he n (by omega))).1.2.2.2.2.1
    simp only [colS]
    rw [col_eq h he n (by omega), e2, e]; omega
theorem tak_ok (h : Gd L f i) (he : srE L net L.length = 0) (hn : -1000000000 ≤ net ∧ net ≤ 1000000000) (hp : 0 ≤ prt) : ∀ n, n ≤ L.length → takB (srL L net prt L.length) n = true
  | 0, _ => rfl
  | n + 1, hn' => by
    have c1 := col_eq (prt := prt) h he n (by omega)
    have c2 := col_eq (prt := prt) h he (n + 1) hn'
    have s1 := srT_in (prt := prt) h he n (by omega)
    have s2 := srT_in (prt := prt) h he (n + 1) hn'
    obtain ⟨t1, t2, t3, t4, t5, _⟩ := t_in (prt := prt) h (q := n) (by omega) (srE_all he n (by omega))
    have e2 := (srl_oc (prt := prt) (n := L.length) (q := n) (by omega) (srE_all he n (by omega))).1.2.2.2.2.1
    simp only [takB]
    rw [tak_ok h he hn hp n (by omega), Bool.true_and, addB_iff]
    simp only [colS] at c2
    rw [c1, e2] at c2
    rw [c1, e2]
    rw [rightB_iff, rightB_iff, rightB_iff]
    rcases Int.lt_or_le net prt with hh | hh
    · have := s1.2.2 hh; have := s2.2.2 hh; omega
    · have := s1.2.1 hh; have := s2.2.1 hh; omega
theorem sh_in (h : Gd L f i) (he : srE L net L.length = 0) : ∀ n, n ≤ L.length → shB (srL L net prt L.length) n = true → srT L net prt n ≤ prt
  | 0, _, hs => by cases hs
  | n + 1, hn, hs => by
    have e : srT L net prt (n + 1) = srT L net prt n - oT L net prt n := rfl
    obtain ⟨t1, t2, t3, t4, t5, t6⟩ := t_in (prt := prt) h (q := n) (by omega) (srE_all he n (by omega))
    have ee := (srl_oc (prt := prt) (n := L.length) (q := n) (by omega) (srE_all he n (by omega))).1
    simp only [shB, Bool.or_eq_true, decide_eq_true_eq] at hs
    rw [ee.2.2.2.2.1, ee.2.2.2.1] at hs
    rw [e]
    rcases hs with hs | hs
    · have := sh_in h he n (by omega) hs; omega
    · have := t6 hs
      rw [this]; unfold maxV; split <;> omega
theorem rt_ok (h : Gd L f i) (he : srE L net L.length = 0) : ∀ n, n ≤ L.length → rtB (srL L net prt L.length) n = true
  | 0, _ => rfl
  | n + 1, hn => by
    obtain ⟨t1, t2, t3, t4, t5, t6⟩ := t_in (prt := prt) h (q := n) (by omega) (srE_all he n (by omega))
    obtain ⟨e0, e1, e2, e3, e4, e5⟩ := (srl_oc (prt := prt) (n := L.length) (q := n) (by omega) (srE_all he n (by omega))).1
    simp only [rtB]
    rw [rt_ok h he n (by omega), Bool.true_and]
    unfold rtI
    rw [e1, e2, e3, e4, e5, decide_eq_true (show oc L n 6 + oO L net n = oD L net n by unfold oD; omega), decide_eq_true (show oT L net prt n + (oD L net n - oT L net prt n) = oD L net n by omega), decide_eq_true t1]
    cases hs : shB (srL L net prt L.length) n with
    | false => rfl
    | true =>
      have := sh_in (prt := prt) h he n (by omega) hs
      rw [decide_eq_false (show ¬ 0 < oT L net prt n by unfold maxV at t3; split at t3 <;> omega)]; rfl
theorem big_ok (h : Gd L f i) (he : srE L net L.length = 0) : ∀ q, q < (srL L net prt L.length).length → ∀ k, bigO (oc (srL L net prt L.length) q k) := fun q hq k => by
  rw [srL_len] at hq
  obtain ⟨t1, t2, t3, t4, t5, t6⟩ := t_in (prt := prt) h hq (srE_all he q hq)
  obtain ⟨⟨e0, e1, e2, e3, e4, e5⟩, e6⟩ := srl_oc (prt := prt) hq (srE_all he q hq)
  obtain ⟨_, g2, _, _, g5, g6, _⟩ := h.2.2.1 q hq
  have g7 := o_in (net := net) h hq
  unfold bigO
  match k with
  | 0 =>
    rw [e0]
    unfold ordE at g2
    split at g2
    · cases g2
    · omega
  | 1 => rw [e1]; omega
  | 2 => rw [e2]; omega
  | 3 => rw [e3]; omega
  | 4 => rw [e4]; omega
  | 5 => rw [e5]; omega
  | k + 6 => rw [e6 _ (by omega)]; omega
theorem mt_ok (h : Gd L f i) (he : srE L net L.length = 0) : Mt L (srL L net prt L.length) :=
  ⟨srL_len _ _ _ _, h.1, fun q hq => (srl_oc hq (srE_all he q hq)).1.1, h.2.2.2⟩
/-- All that a period tells of itself. -/
theorem pd_ok (h : Gd L f i) (hp : 0 ≤ prt ∧ prt ≤ 100000000000) {l X : List SV} {left e : Int} (hd : Pd L l X left e net prt) (h0 : e = 0) :
    l.length = L.length ∧ takB l l.length = true ∧ left = IntKind.i64.wrap (net - takV l) ∧ ¬ left < minV net prt ∧ (∀ q, q < l.length → ∀ k, bigO (oc l q k)) ∧ rtB l l.length = true ∧ X.length = L.length := by
  have hn := hd.1
  obtain ⟨rfl, he, rfl, hx⟩ := hd.2.2 h0
  have ht := tak_ok (prt := prt) h he hn hp.1 L.length (Nat.le_refl _)
  have hs := srT_in (prt := prt) h he L.length (Nat.le_refl _)
  have hc := col_eq (prt := prt) h he L.length (Nat.le_refl _)
  have hl := srL_len L net prt L.length
  have ht' : takB (srL L net prt L.length) (srL L net prt L.length).length = true := by rw [hl]; exact ht
  refine ⟨hl, ht', ?_, ?_, big_ok h he, by rw [hl]; exact rt_ok h he _ (Nat.le_refl _), hx.1⟩
  · rw [takV_ok ht', hl, hc]
    rcases Int.lt_or_le net prt with hh | hh
    · have := hs.2.2 hh; rw [wrapI (by omega)]; omega
    · have := hs.2.1 hh; rw [wrapI (by omega)]; omega
  · unfold minV
    rcases Int.lt_or_le net prt with hh | hh
    · have := hs.2.2 hh; split <;> omega
    · have := hs.2.1 hh; split <;> omega
theorem md0 (h : Gd L f i) {l X : List SV} {left e : Int} (hd : Pd L l X left e net prt) (h0 : e = 0) : Md L l X f f net prt i 0 := by
  obtain ⟨rfl, he, rfl, hx⟩ := hd.2.2 h0
  exact ⟨h, hx, rfl, he, fun q _ => by rw [if_neg (Nat.not_lt_zero _)]; omega⟩
theorem md_step {l X : List SV} {g : Int → Option Int} {j : Nat} {v : Int} (h : Md L l X f g net prt i j) (hj : j < l.length) (hv : v = IntKind.i64.wrap ((g (oc l j 0)).getD 0 + oc l j 2)) : Md L l X f (updF g (oc l j 0) (some v)) net prt i (j + 1) := by
  obtain ⟨h1, h2, rfl, he, h5⟩ := h
  rw [srL_len] at hj
  obtain ⟨e0, e1, e2, e3, e4, e5⟩ := (srl_oc (prt := prt) hj (srE_all he j hj)).1
  have ho := o_in (net := net) h1 hj
  obtain ⟨_, _, g3, g4, g5, g6, _, g8⟩ := h1.2.2.1 j hj
  refine ⟨h1, h2, rfl, he, fun q hq => ?_⟩
  have hq5 := h5 q hq
  by_cases hqj : q = j
  · subst hqj
    rw [if_neg (Nat.lt_irrefl _), Int.add_zero] at hq5
    rw [e0, e2, hq5, g8, wrapI (by omega)] at hv
    rw [if_pos (Nat.lt_succ_self _), e0, e2, g8]
    unfold updF
    rw [if_pos rfl, hv]; rfl
  · have hne : ¬ oc L q 0 = oc L j 0 := fun e => hqj (h1.2.2.2 q j hq hj e)
    rw [e0]
    unfold updF
    rw [if_neg hne, hq5]
    congr 1
    by_cases c : q < j
    · rw [if_pos c, if_pos (by omega)]
    · rw [if_neg c, if_neg (by omega)]
theorem md_end {l X : List SV} {g : Int → Option Int} {j : Nat} (h : Md L l X f g net prt i j) (hj : l.length ≤ j) (hi : i < 40) : Gd X g (i + 1) := by
  obtain ⟨h1, ⟨x1, x2, x3⟩, rfl, he, h5⟩ := h
  rw [srL_len] at hj
  refine ⟨by rw [x1]; exact h1.1, by omega, fun q hq => ?_, fun q r hq hr hqr => ?_⟩
  · rw [x1] at hq
    obtain ⟨y1, y2, y3, y4⟩ := x3 q hq
    rw [if_pos hq] at y2 y3
    obtain ⟨y5, y6⟩ := y4 hq
    obtain ⟨e0, e1, e2, e3, e4, e5⟩ := (srl_oc (prt := prt) hq (srE_all he q hq)).1
    obtain ⟨g1, g2, g3, g4, g5, g6, g7, g8⟩ := h1.2.2.1 q hq
    obtain ⟨t1, t2, t3, t4, t5, t6⟩ := t_in (prt := prt) h1 hq (srE_all he q hq)
    have ho := o_in (net := net) h1 hq
    have hg := h5 q hq
    rw [if_pos (by omega), e2, g8] at hg
    rw [y1 0 (by omega), y1 1 (by omega), y1 2 (by omega), y1 3 (by omega), y1 4 (by omega)]
    have b5 := rightB_iff.1 y5
    have b6 := rightB_iff.1 y6
    rw [e4] at y2
    rw [e5] at y3
    have eD : oD L net q = oO L net q + oc L q 6 := rfl
    refine ⟨x2 q hq, g2, by omega, b5.2, by omega, b6.2, fun hto => ?_, by rw [hg, y2, y3]; omega⟩
    have hl := ho.2.2
    have g7' := g7 hto
    unfold leftO maxV at hl
    rw [if_neg (by omega)] at hl
    split at hl <;> omega
  · rw [x1] at hq hr
    rw [(x3 q hq).1 0 (by omega), (x3 r hr).1 0 (by omega)] at hqr
    exact h1.2.2.2 q r hq hr hqr
theorem tk0 {l : List SV} (h : Gd L f i) : Tk L l L 0 := ⟨rfl, fun q hq => (h.2.2.1 q hq).1, fun q _ => ⟨fun _ _ => rfl, (if_neg (Nat.not_lt_zero _)).symm, (if_neg (Nat.not_lt_zero _)).symm, fun h => absurd h (Nat.not_lt_zero _)⟩⟩
theorem tk_at {l X : List SV} {j k : Nat} (hm : Mt L l) (h : Tk L l X j) (hj : j < L.length) (hk : k < X.length) (he : oc X k 0 = oc l j 0) : k = j := by
  rw [h.1] at hk
  rw [(h.2.2 k hk).1 0 (by omega), hm.2.2.1 j hj] at he
  exact hm.2.2.2 k j hk hj he
theorem tk_is {l X : List SV} {j : Nat} (hm : Mt L l) (h : Tk L l X j) (hj : j < L.length) (hn : noId X (oc l j 0) X.length) : False := by
  refine hn j (by rw [h.1]; exact hj) ?_
  rw [(h.2.2 j hj).1 0 (by omega), hm.2.2.1 j hj]
theorem set2 {c : List SV} (hc : c.length = 7) (a b : SV) : (setL (setL c 5 [a]) 6 [b]).length = 7 ∧ (∀ k, k < 5 → (setL (setL c 5 [a]) 6 [b]).getD k .any = c.getD k .any) ∧ (setL (setL c 5 [a]) 6 [b]).getD 5 .any = a ∧ (setL (setL c 5 [a]) 6 [b]).getD 6 .any = b := by
  match c, hc with
  | [c0, c1, c2, c3, c4, c5, c6], _ =>
    refine ⟨rfl, fun k hk => ?_, rfl, rfl⟩
    match k, hk with
    | 0, _ | 1, _ | 2, _ | 3, _ | 4, _ => rfl
theorem tk_step {l X : List SV} {j : Nat} {a b : Int} (hm : Mt L l) (h : Tk L l X j) (hj : j < L.length) (ha : addB (oc X j 5) (oc l j 4) = true) (hb : rightB (oc l j 5) = true) (ea : a = addV (oc X j 5) (oc l j 4)) (eb : b = oc l j 5) :
    Tk L l ((X.set j (.agg (setL (X.getD j .any).cells 5 [.int .i64 a]))).set j (.agg (setL ((X.set j (.agg (setL (X.getD j .any).cells 5 [.int .i64 a]))).getD j .any).cells 6 [.int .i64 b]))) (j + 1) := by
  obtain ⟨x1, x2, x3⟩ := h
  have e1 : (X.set j (.agg (setL (X.getD j .any).cells 5 [.int .i64 a]))).getD j .any = .agg (setL (X.getD j .any).cells 5 [.int .i64 a]) := by
    rw [List.getD_eq_getElem?_getD, List.getElem?_set_self (by omega)]; rfl
  rw [e1, List.set_set]
  show Tk L l (X.set j (.agg (setL (setL (X.getD j .any).cells 5 [.int .i64 a]) 6 [.int .i64 b]))) (j + 1)
  obtain ⟨s1, s2, s3, s4⟩ := set2 (x2 j hj) (.int .i64 a) (.int .i64 b)
  generalize setL (setL (X.getD j .any).cells 5 [.int .i64 a]) 6 [.int .i64 b] = C at *
  have eg : ∀ q, (X.set j (.agg C)).getD q .any = if q = j then .agg C else X.getD q .any := fun q => by
    rw [List.getD_eq_getElem?_getD]
    by_cases hq : q = j
    · subst hq; rw [List.getElem?_set_self (by omega), if_pos rfl]; rfl
    · rw [List.getElem?_set_ne (fun e => hq e.symm), if_neg hq, List.getD_eq_getElem?_getD]
  have eo : ∀ q k, oc (X.set j (.agg C)) q k = if q = j then (C.getD k .any).toInt else oc X q k := fun q k => by
    unfold oc elCell; rw [eg]
    by_cases hq : q = j
    · rw [if_pos hq, if_pos hq]; rfl
    · rw [if_neg hq, if_neg hq]
  refine ⟨by rw [List.length_set]; exact x1, fun q hq => ?_, fun q hq => ?_⟩
  · rw [eg]
    by_cases hqj : q = j
    · rw [if_pos hqj]; exact s1
    · rw [if_neg hqj]; exact x2 q hq
  · obtain ⟨y1, y2, y3, y4⟩ := x3 q hq
    simp only [eo]
    by_cases hqj : q = j
    · subst hqj
      rw [if_neg (Nat.lt_irrefl _)] at y2
      simp only [if_pos (Nat.lt_succ_self q), if_true]
      rw [s3, s4]
      refine ⟨fun k hk => ?_, ?_, ?_, fun _ => ⟨?_, ?_⟩⟩
      · rw [s2 k hk]; exact y1 k hk
      · show a = _; rw [ea, addV_ok ha, y2]
      · exact eb
      · show rightB a = true; rw [ea, addV_ok ha]; exact (addB_iff.1 ha).2
      · show rightB b = true; rw [eb]; exact hb
    · simp only [if_neg hqj]
      by_cases hlt : q < j
      · rw [if_pos hlt] at y2 y3
        rw [if_pos (by omega), if_pos (by omega)]
        exact ⟨y1, y2, y3, fun _ => y4 hlt⟩
      · rw [if_neg hlt] at y2 y3
        rw [if_neg (by omega), if_neg (by omega)]
        exact ⟨y1, y2, y3, fun h => absurd h (by omega)⟩
end
end Go.Rx

