/- The framework, part 22: a scope with its labels; a function. -/
import Derived.Test.YtkmiakgpkgmcbaaFw21
import Derived.Laws.Sem
namespace Go.Rx
set_option linter.unusedSectionVars false
open Go.RowKit

section
variable {cx : Cx} {P : Program} [Laid P] {B : Nat} {M I0 : Nat → Prop} {G : Nat → Value} {w0 : World} {E : Env} {s : St} {a : Act} {w : World}

/-- By a goto to one of these labels: J, of that label. -/
def jumps (labs : List Nat) (J : Nat → Act → World → Prop) (Q : Exit → Act → World → Prop) : Exit → Act → World → Prop
  | .goto l, a, w => l ∈ labs ∧ J l a w
  | e, a, w => Q e a w

/-- A scope in which the run jumps to several labels: what holds at each, at a number; every pass lowers the number. -/
theorem wp_scope_labels {c : Code} {Q : Exit → Act → World → Prop} (labs : List Nat) (J : Nat → Nat → Act → World → Prop) (hf : ∀ l, l ∈ labs → ∃ rest, findLabel c l = some rest ∧
      ∀ n a w, J l n a w → rest.wp P (jumps labs (fun l' a' w' => ∃ n', n' < n ∧ J l' n' a' w') Q) a w)
    (first : c.wp P (jumps labs (fun l a w => ∃ n, J l n a w) Q) a w) : (Code.scope c).wp P Q a w := by
  intro b k cs
  have key : ∀ n l a w, l ∈ labs → J l n a w → ∀ rest, findLabel c l = some rest → ∃ e a' w', Q e a' w' ∧ Arrives P (lone (b.at a (.code rest :: .inScope c :: k)) cs w) b k cs e a' w' := by
    intro n
    induction n using Nat.strongRecOn with
    | _ n ih =>
      intro l a w hl hJ rest hrest
      obtain ⟨rest', hr', pass⟩ := hf l hl
      rw [hrest] at hr'
      cases hr'
      obtain ⟨e, a₁, w₁, hq, harr⟩ := pass n a w hJ b (.inScope c :: k) cs
      cases e with
      | normal => exact ⟨.normal, a₁, w₁, hq, Steps.trans harr (.one step_inScope)⟩
      | exit id => exact ⟨.exit id, a₁, w₁, hq, fun k' hk => harr k' (by simp [exitTo, hk])⟩
      | goto l' =>
        obtain ⟨hl', n', hlt, hJ'⟩ := hq
        obtain ⟨rest2, hr2, _⟩ := hf l' hl'
        have hg : gotoIn l' (.inScope c :: k) = some (.code rest2 :: .inScope c :: k) := by simp [gotoIn, hr2]
        obtain ⟨e₂, a₂, w₂, hq₂, harr₂⟩ := ih n' hlt l' a₁ w₁ hl' hJ' rest2 hr2
        exact ⟨e₂, a₂, w₂, hq₂, .of_steps (harr _ hg) harr₂⟩
      | ret => exact ⟨_, a₁, w₁, hq, harr⟩
      | panic ch => exact ⟨_, a₁, w₁, hq, harr⟩
      | outgrown => exact ⟨_, a₁, w₁, hq, harr⟩
  obtain ⟨e, a₁, w₁, hq, harr⟩ := first b (.inScope c :: k) cs
  cases e with
  | normal => exact ⟨.normal, a₁, w₁, hq, .head step_scope (Steps.trans harr (.one step_inScope))⟩
  | exit id => exact ⟨.exit id, a₁, w₁, hq, fun k' hk => .head step_scope (harr k' (by simp [exitTo, hk]))⟩
  | goto l' =>
    obtain ⟨hl', n', hJ'⟩ := hq
    obtain ⟨rest2, hr2, _⟩ := hf l' hl'
    have hg : gotoIn l' (.inScope c :: k) = some (.code rest2 :: .inScope c :: k) := by simp [gotoIn, hr2]
    obtain ⟨e₂, a₂, w₂, hq₂, harr₂⟩ := key n' l' a₁ w₁ hl' hJ' rest2 hr2
    exact ⟨e₂, a₂, w₂, hq₂, .of_steps (.head step_scope (harr _ hg)) harr₂⟩
  | ret => exact ⟨_, a₁, w₁, hq, .of_steps (.one step_scope) harr⟩
  | panic ch => exact ⟨_, a₁, w₁, hq, .of_steps (.one step_scope) harr⟩
  | outgrown => exact ⟨_, a₁, w₁, hq, .of_steps (.one step_scope) harr⟩

theorem passes_get {An : Nat → Option Ann} {labs : List Nat} {c : Code} {bl : Nat} {Q : Ex → St → Prop} : ∀ {l : List Nat}, passes cx An labs c bl Q l → ∀ k, k ∈ l → ∃ A rest, An (1000 + k) = some A ∧ findLabel c k = some rest ∧
    ∀ x : A.ι, A.p x → wpC cx An noSc rest bl (A.F x) (gotoQ An labs (fun n => n < A.μ x) Q)
  | [], _, k, hk => by cases hk
  | l :: r, h, k, hk => by
    simp only [passes] at h
    rcases List.mem_cons.1 hk with rfl | hk
    · have := h.1
      split at this
      · rename_i A rest h1 h2
        exact ⟨A, rest, h1, h2, this⟩
      · exact this.elim
    · exact passes_get h.2 k hk

/-- What holds at a label, in a run, at a number. -/
def LR (P : Program) [Laid P] (cx : Cx) (An : Nat → Option Ann) (B : Nat) (M I0 : Nat → Prop) (G : Nat → Value) (w0 : World) (l n : Nat) (a : Act) (w : World) : Prop :=
  ∃ A, An (1000 + l) = some A ∧ HR P cx B M I0 G w0 A n a w

theorem gotoQ_run {An : Nat → Option Ann} {labs : List Nat} {q : Nat → Prop} {Q : Ex → St → Prop} {e : Exit} (h : QR P cx B M I0 G w0 (gotoQ An labs q Q) e a w) : jumps labs (fun l a w => ∃ n, q n ∧ LR P cx An B M I0 G w0 l n a w) (QR P cx B M I0 G w0 Q) e a w := by
  cases e with
  | normal => exact h
  | ret => exact h
  | exit id => exact h
  | goto l =>
    obtain ⟨E, s, h1, h2⟩ := h
    simp only [gotoQ] at h2
    split at h2
    · rename_i hl
      unfold atHeadO at h2
      split at h2
      · rename_i A hA
        obtain ⟨x, E', h3, h4, h5⟩ := atHead_HR h1 h2
        exact ⟨by simpa using hl, A.μ x, h4, A, hA, x, E', h3, rfl, h5⟩
      · exact h2.elim
    · exact h2.elim
  | panic ch => exact h.elim
  | outgrown => exact h.elim

theorem scopeH_ok (hP : CxOk P cx) {An : Nat → Option Ann} {labs : List Nat} : ScOk P cx B M I0 G w0 (scopeH cx An labs) := by
  intro c bl s Q E a w h hc
  obtain ⟨h1, h2⟩ := hc
  refine wp_scope_labels labs (LR P cx An B M I0 G w0) (fun l hl => ?_) (wp_mono (wpC_run hP noSc_ok c bl s _ E a w h h1) (fun e a w hq => ?_))
  · obtain ⟨A, rest, e1, e2, e3⟩ := passes_get h2 l hl
    refine ⟨rest, e2, fun n a w hJ => ?_⟩
    obtain ⟨A', e1', x, E', hx, rfl, hrel⟩ := hJ
    rw [e1] at e1'
    cases e1'
    refine wp_mono (wpC_run hP noSc_ok rest bl _ _ E' a w hrel (e3 x hx)) (fun e a w hq => ?_)
    exact gotoQ_run hq
  · have := gotoQ_run hq
    cases e with
    | goto l => exact ⟨this.1, by obtain ⟨n, _, hn⟩ := this.2; exact ⟨n, hn⟩⟩
    | normal => exact hq
    | ret => exact hq
    | exit id => exact hq
    | panic ch => exact hq.elim
    | outgrown => exact hq.elim

/-! ### What a function hands back -/
def resSem (a : Act) (r : ResultVar) : Sem Value :=
  match r with
  | .tmp t => pure (a.tmps.getD t undef)
  | .cell b t => do loadVar t (← asAddr (a.tmps.getD b undef))

theorem res_run (hP : CxOk P cx) (h : Rel P cx.nt B M I0 G w0 E s a w) (r : ResultVar) (hr : resB cx s r = true) : ∃ v, (resSem a r).run P w = .ok v w ∧ CV E (lkO s.mem) w v (resOf cx s r) := by
  cases r with
  | tmp t => exact ⟨_, by simp only [resSem, Sem.run_pure], h.tm t⟩
  | cell b t =>
    simp only [resB] at hr
    simp only [resOf]
    have hb := h.tm b
    split at hr
    · rename_i c off L e1 e2
      rw [e1] at hb
      obtain ⟨g, bt, cs, e3, hm, hl⟩ := hb.inv_ptr
      simp only [hm] at hr
      simp only [hm, hr]
      have hL := tyRun hP e2
      obtain ⟨xs, h1, h2, h3⟩ := h.boxAt hm hl
      have hn := Nat.le_of_ble_eq_true hr
      refine ⟨_, ?_, ldAt_cv (f := fun j => xs.getD (off + j) undef) hL hn (fun j _ => h3 (off + j))⟩
      simp only [resSem, e3, Sem.run_bind]
      simp only [asAddr, Sem.run_pure, Result.andThen_ok]
      rw [run_loadVar' hL g off (fun j => xs.getD (off + j) undef) (fun j hj => cell_of_heap h1 (by omega))]
    · cases hr

theorem ress_run (hP : CxOk P cx) (h : Rel P cx.nt B M I0 G w0 E s a w) : ∀ (rs : List ResultVar), resBs cx s rs = true → ∃ vs : List Value, (rs.mapM (resSem a)).run P w = .ok vs w ∧ vs.length = rs.length ∧
    ∀ i, CV E (lkO s.mem) w (vs.getD i undef) ((rs.map (resOf cx s)).getD i .any)
  | [], _ => ⟨[], by simp, rfl, fun i => by simpa using CV.conc _ _ (Conc.any _)⟩
  | r :: rs, hb => by
    simp only [resBs] at hb
    split at hb
    · rename_i hr
      obtain ⟨v, h1, h2⟩ := res_run hP h r hr
      obtain ⟨vs, h3, h4, h5⟩ := ress_run hP h rs hb
      refine ⟨v :: vs, ?_, by simp [h4], fun i => ?_⟩
      · rw [List.mapM_cons, Sem.run_bind, h1, Result.andThen_ok, Sem.run_bind, h3, Result.andThen_ok, Sem.run_pure]
      · cases i with
        | zero => simpa using h2
        | succ i => simpa using h5 i
    · cases hb

def rawSV (cx : Cx) (f : Func) (s : St) : SV :=
  match f.results.toList with
  | [r] => resOf cx s r
  | rs => .tup (rs.map (resOf cx s))

theorem results_run (hP : CxOk P cx) (h : Rel P cx.nt B M I0 G w0 E s a w) (fn : Func) (hb : resBs cx s fn.results.toList = true) : ∃ v, (results fn a.tmps).run P w = .ok v w ∧ CV E (lkO s.mem) w v (rawSV cx fn s) := by
  obtain ⟨vs, h1, h2, h3⟩ := ress_run hP h fn.results.toList hb
  have hrun : (fn.results.mapM (resSem a)).run P w = .ok vs.toArray w := by
    rw [Array.mapM_eq_mapM_toList, Sem.run_map, h1]
    rfl
  refine ⟨if h : vs.toArray.size = 1 then vs.toArray[0] else .tuple vs.toArray, ?_, ?_⟩
  · have : results fn a.tmps = (do let vs ← fn.results.mapM (resSem a); pure (if h : vs.size = 1 then vs[0] else .tuple vs)) := rfl
    rw [this, Sem.run_bind, hrun, Result.andThen_ok, Sem.run_pure]
  · unfold rawSV
    rcases hl : fn.results.toList with _ | ⟨r, _ | ⟨r', rs⟩⟩
    · rw [hl] at h2
      have : vs = [] := List.eq_nil_of_length_eq_zero h2
      subst this
      exact .tup _ _ rfl (fun i => by simpa using CV.conc _ _ (Conc.any _))
    · rw [hl] at h2 h3
      obtain ⟨v, rfl⟩ := List.length_eq_one_iff.1 h2
      simpa using h3 0
    · rw [hl] at h2 h3
      have hne : ¬ vs.toArray.size = 1 := by simp at h2 ⊢; omega
      rw [dif_neg hne]
      exact .tup _ _ (by simpa using h2) (fun i => by simpa [Array.getD_eq_getD_getElem?, List.getD_eq_getElem?_getD] using h3 i)

theorem resOf_freeze {s s' : St} {m : List (Nat × Chunk)} {cs : List Nat} (hm : m = s.mem) (ht : s'.tm = s.tm) (hk : ∀ k, lkO s'.mem k = (match lkO (freezes m cs) k with | some ch => some ch | none => lkO s.mem k)) (r : ResultVar) :
    resOf cx s' r = resOf cx s r ∧ resB cx s' r = resB cx s r := by
  subst hm
  have box : ∀ c, (∀ t xs, lkO s'.mem c = some (.box t xs) ↔ lkO s.mem c = some (.box t xs)) := by
    intro c t xs
    rw [hk]
    by_cases hrow : ∃ v e ks l, lkO s.mem c = some (.row v e ks l)
    · obtain ⟨v, e, ks, l, h1⟩ := hrow
      rcases freezes_lk h1 cs with h2 | h2 <;> rw [h2]
      rw [h1]
      simp
    · rw [freezes_none (fun v e ks l h => hrow ⟨v, e, ks, l, h⟩) cs]
  cases r with
  | tmp t => simp only [resOf, resB, ht]; exact ⟨trivial, trivial⟩
  | cell b t =>
    simp only [resOf, resB, ht]
    split
    · rename_i c off L _ _
      cases h1 : lkO s.mem c with
      | none =>
        cases h2 : lkO s'.mem c with
        | none => exact ⟨rfl, rfl⟩
        | some ch =>
          cases ch with
          | box t xs => rw [(box c t xs).1 h2] at h1; cases h1
          | row => exact ⟨rfl, rfl⟩
          | froz => exact ⟨rfl, rfl⟩
          | gh => exact ⟨rfl, rfl⟩
          | mp => exact ⟨rfl, rfl⟩
          | it => exact ⟨rfl, rfl⟩
      | some ch =>
        cases ch with
        | box t xs => rw [(box c t xs).2 h1]; exact ⟨rfl, rfl⟩
        | row v e ks l =>
          cases h2 : lkO s'.mem c with
          | none => exact ⟨rfl, rfl⟩
          | some ch =>
            cases ch with
            | box t xs => rw [(box c t xs).1 h2] at h1; cases h1
            | row => exact ⟨rfl, rfl⟩
            | froz => exact ⟨rfl, rfl⟩
            | gh => exact ⟨rfl, rfl⟩
            | mp => exact ⟨rfl, rfl⟩
            | it => exact ⟨rfl, rfl⟩
        | froz v ks l =>
          cases h2 : lkO s'.mem c with
          | none => exact ⟨rfl, rfl⟩
          | some ch =>
            cases ch with
            | box t xs => rw [(box c t xs).1 h2] at h1; cases h1
            | row => exact ⟨rfl, rfl⟩
            | froz => exact ⟨rfl, rfl⟩
            | gh => exact ⟨rfl, rfl⟩
            | mp => exact ⟨rfl, rfl⟩
            | it => exact ⟨rfl, rfl⟩
        | gh v =>
          cases h2 : lkO s'.mem c with
          | none => exact ⟨rfl, rfl⟩
          | some ch =>
            cases ch with
            | box t xs => rw [(box c t xs).1 h2] at h1; cases h1
            | row => exact ⟨rfl, rfl⟩
            | froz => exact ⟨rfl, rfl⟩
            | gh => exact ⟨rfl, rfl⟩
            | mp => exact ⟨rfl, rfl⟩
            | it => exact ⟨rfl, rfl⟩
        | mp =>
          cases h2 : lkO s'.mem c with
          | none => exact ⟨rfl, rfl⟩
          | some ch =>
            cases ch with
            | box t xs => rw [(box c t xs).1 h2] at h1; cases h1
            | row => exact ⟨rfl, rfl⟩
            | froz => exact ⟨rfl, rfl⟩
            | gh => exact ⟨rfl, rfl⟩
            | mp => exact ⟨rfl, rfl⟩
            | it => exact ⟨rfl, rfl⟩
        | it =>
          cases h2 : lkO s'.mem c with
          | none => exact ⟨rfl, rfl⟩
          | some ch =>
            cases ch with
            | box t xs => rw [(box c t xs).1 h2] at h1; cases h1
            | row => exact ⟨rfl, rfl⟩
            | froz => exact ⟨rfl, rfl⟩
            | gh => exact ⟨rfl, rfl⟩
            | mp => exact ⟨rfl, rfl⟩
            | it => exact ⟨rfl, rfl⟩
    · exact ⟨rfl, rfl⟩

theorem resBs_congr {s s' : St} (h : ∀ r, resB cx s' r = resB cx s r) : ∀ rs, resBs cx s' rs = resBs cx s rs
  | [] => rfl
  | r :: rs => by simp only [resBs, h, resBs_congr h rs]

theorem kBs_shOk' {m : Nat → Option Chunk} : ∀ {ks : List CK} {cs : List SV}, kBs ks cs = true → cs.length = ks.length ∧ ∀ j, j < ks.length → kOk (ks.getD j .other) (cs.getD j .any)
  | [], [], _ => ⟨rfl, fun j hj => by simp at hj⟩
  | k :: ks, v :: cs, h => by
    simp only [kBs, Bool.and_eq_true] at h
    obtain ⟨h1, h2⟩ := kBs_shOk' (m := m) h.2
    refine ⟨by simp [h1], fun j hj => ?_⟩
    cases j with
    | zero => exact (kB_ok h.1).1
    | succ j => simpa using h2 j (by simpa using hj)
  | [], _ :: _, h => by cases h
  | _ :: _, [], h => by cases h

mutual
/-- Boxes that are handed back are written no more. -/
theorem pinV_conc {mm mm' : List (Nat × Chunk)} {I2 : Nat → Prop} (hI : ∀ b, E.I b → I2 b) (hl : ∀ c b t cs, lkO mm c = some (.box t cs) → roK c = false → E.loc c = some b → I2 b) (hbox : ∀ c t cs, lkO mm c = some (.box t cs) → lkO mm' c = some (.box t cs)) (hch : ∀ c, ChR E (lkO mm') w c (lkO mm' c)) :
    ∀ (v : SV) (x : Value), closed (pinV cx mm v) = true → CV E (lkO mm') w x v → Conc I2 w x (pinV cx mm v)
  | .ptr c off, x, hc, h => by
    unfold pinV at hc ⊢
    split at hc
    · rename_i t cs hm
      split at hc
      · rename_i L hL
        split at hc
        · rename_i q1 q2 q3
          simp only [Bool.and_eq_true, Bool.not_eq_true'] at q1
          have h0 := Nat.eq_of_beq_eq_true q1.1
          subst h0
          obtain ⟨b, t', cs', e1, e2, e3⟩ := h.inv_ptr
          have hm' := hbox c t cs hm
          have hc' := hch c
          rw [hm'] at hc'
          obtain ⟨b', xs, p1, p2, p3, p4⟩ := hc'
          rw [e3] at p1
          cases p1
          obtain ⟨k1, k2⟩ := kBs_shOk' (m := lkO mm') q3
          rw [e1]
          have hsh : shOk L.ks (.agg cs) := ⟨k1, k2⟩
          have := Conc.ep (I := I2) (w := w) b 0 L.ks [.agg cs] 0 0 (fun _ j => xs.getD j undef) (hl c b _ _ hm q1.2 e3) (by simp) (fun e he => by simp at he; subst he; exact hsh)
            (fun i j hi hj => by
              have hi : i = 0 := by simpa using hi
              subst hi
              simp only [World.cell?, p2]
              rw [if_neg (by simp)]
              have hlt : j < xs.size := by omega
              simp [Array.getD_eq_getD_getElem?, hlt])
            (fun i j hi hj => by
              have hi : i = 0 := by simpa using hi
              subst hi
              have := closedL_conc cs q2 j _ (p4 j)
              exact this.mono hI (fun _ _ => rfl))
          simpa using this
        · simp [closed] at hc
      · simp [closed] at hc
    · simp [closed] at hc
  | .tup vs, x, hc, h => by
    simp only [pinV] at hc ⊢
    obtain ⟨xs, rfl, h1, h2⟩ := h.inv_tup
    exact .tup xs _ (by rw [h1, pinL_length]) (fun i => pinL_conc hI hl hbox hch vs i _ (by simpa [closed] using hc) (h2 i))
  | .any, x, hc, h => (closed_conc _ _ hc h).mono hI (fun _ _ => rfl)
  | .und, x, hc, h => (closed_conc _ _ hc h).mono hI (fun _ _ => rfl)
  | .int _ _, x, hc, h => (closed_conc _ _ hc h).mono hI (fun _ _ => rfl)
  | .bool _, x, hc, h => (closed_conc _ _ hc h).mono hI (fun _ _ => rfl)
  | .tt, x, hc, h => (closed_conc _ _ hc h).mono hI (fun _ _ => rfl)
  | .ff, x, hc, h => (closed_conc _ _ hc h).mono hI (fun _ _ => rfl)
  | .str _, x, hc, h => (closed_conc _ _ hc h).mono hI (fun _ _ => rfl)
  | .flt _, x, hc, h => (closed_conc _ _ hc h).mono hI (fun _ _ => rfl)
  | .cpx _ _, x, hc, h => (closed_conc _ _ hc h).mono hI (fun _ _ => rfl)
  | .agg cs, x, hc, h => (closed_conc (.agg cs) x hc h).mono hI (fun _ _ => rfl)
  | .ptx _ _, x, hc, h => by simp [pinV, closed] at hc
  | .rptr _ _ _ _ _, x, hc, h => by simp [pinV, closed] at hc
  | .osl _ _, x, hc, h => by simp [pinV, closed] at hc
  | .sl _ _, x, hc, h => (closed_conc _ _ hc h).mono hI (fun _ _ => rfl)
  | .ep _ _ _ _, x, hc, h => (closed_conc _ _ hc h).mono hI (fun _ _ => rfl)
  | .oep _ _ _ _ _, x, hc, h => (closed_conc _ _ hc h).mono hI (fun _ _ => rfl)
  | .csl _ _ _, x, hc, h => (closed_conc _ _ hc h).mono hI (fun _ _ => rfl)
  | .nb _, x, hc, h => (closed_conc _ _ hc h).mono hI (fun _ _ => rfl)
  | .fsl _ _, x, hc, h => (closed_conc _ _ hc h).mono hI (fun _ _ => rfl)
  | .lp _ _, x, hc, h => by simp [pinV, closed] at hc
  | .mpp _, x, hc, h => by simp [pinV, closed] at hc
  | .itp _, x, hc, h => by simp [pinV, closed] at hc
  | .otl _ _ _ _, x, hc, h => by simp [pinV, closed] at hc
  | .own _ _ _, x, hc, h => (closed_conc _ _ hc h).mono hI (fun _ _ => rfl)
  | .nilsl, x, hc, h => (closed_conc _ _ hc h).mono hI (fun _ _ => rfl)
  | .nilp, x, hc, h => (closed_conc _ _ hc h).mono hI (fun _ _ => rfl)
  | .fn f cs, x, hc, h => (closed_conc (.fn f cs) x hc h).mono hI (fun _ _ => rfl)
theorem pinL_conc {mm mm' : List (Nat × Chunk)} {I2 : Nat → Prop} (hI : ∀ b, E.I b → I2 b) (hl : ∀ c b t cs, lkO mm c = some (.box t cs) → roK c = false → E.loc c = some b → I2 b) (hbox : ∀ c t cs, lkO mm c = some (.box t cs) → lkO mm' c = some (.box t cs)) (hch : ∀ c, ChR E (lkO mm') w c (lkO mm' c)) :
    ∀ (vs : List SV) (i : Nat) (x : Value), closedL (pinL cx mm vs) = true → CV E (lkO mm') w x (vs.getD i .any) → Conc I2 w x ((pinL cx mm vs).getD i .any)
  | [], i, x, _, _ => by simpa [pinL] using Conc.any _
  | v :: r, 0, x, hc, h => by
    simp only [pinL, closedL, Bool.and_eq_true] at hc
    simpa [pinL] using pinV_conc hI hl hbox hch v x hc.1 (by simpa using h)
  | v :: r, i + 1, x, hc, h => by
    simp only [pinL, closedL, Bool.and_eq_true] at hc
    simpa [pinL] using pinL_conc hI hl hbox hch r i x hc.2 (by simpa using h)
theorem pinL_length {mm : List (Nat × Chunk)} : ∀ (vs : List SV), (pinL cx mm vs).length = vs.length
  | [] => rfl
  | v :: r => by simp [pinL, pinL_length r]
end

theorem closedL_set : ∀ (rs : List SV) (j : Nat), closedL rs = true → closedL (rs.set j .any) = true
  | [], _, _ => rfl
  | v :: r, 0, h => by simp only [closedL, Bool.and_eq_true] at h; simp [closedL, closed, h.2]
  | v :: r, j + 1, h => by simp only [closedL, Bool.and_eq_true] at h; simp [closedL, h.1, closedL_set r j h.2]
theorem ownPut_any {m : Nat → Option Chunk} {x : Value} {v : SV} (j : Option Nat) (h : CV E m w x v) : CV E m w x (ownPut j .any v) := by
  cases j with
  | none => exact .conc _ _ (.any _)
  | some j =>
    cases v <;> try exact h
    rename_i rs
    obtain ⟨xs, rfl, h1, h2⟩ := h.inv_tup
    refine .tup xs _ (by rw [h1]; simp) (fun i => ?_)
    have := h2 i
    simp only [List.getD_eq_getElem?_getD, List.getElem?_set] at this ⊢
    by_cases hij : j = i
    · rw [if_pos hij]; split
      · exact .conc _ _ (.any _)
      · exact .conc _ _ (.any _)
    · rw [if_neg hij]; exact this
theorem ownGet_cv {m : Nat → Option Chunk} {x : Value} {v : SV} {j : Option Nat} {c ver : Nat} (h : CV E m w x v) (hg : ownGet j v = .osl c ver) : CV E m w (ownSel j x) (.osl c ver) := by
  cases j with
  | none => simp only [ownGet] at hg; rw [hg] at h; exact h
  | some j =>
    cases v <;> simp only [ownGet, reduceCtorEq] at hg
    rename_i rs
    obtain ⟨xs, rfl, h1, h2⟩ := h.inv_tup
    have := h2 j
    rw [hg] at this
    exact this

theorem ownGet_nil {m : Nat → Option Chunk} {x : Value} {v : SV} {j : Nat} (h : CV E m w x v) (hg : ownGet (some j) v = .nilsl) : ownSel (some j) x = .slice none 0 0 := by
  cases v <;> simp only [ownGet, reduceCtorEq] at hg
  rename_i rs
  obtain ⟨xs, rfl, h1, h2⟩ := h.inv_tup
  have := h2 j
  rw [hg] at this
  exact this.inv_nilsl
theorem new2 {A : Prop} {b B : Nat} {I0 M : Nat → Prop} (hM : ∀ b, ¬ M b) (h : A ∧ (I0 b ∨ B ≤ b ∨ M b)) : A ∧ (I0 b ∨ B ≤ b) := ⟨h.1, h.2.imp id fun q => q.elim id fun q => absurd q (hM b)⟩
/-- The function's end, where a slice of its own is handed over. -/
theorem end_own (hP : CxOk P cx) (hM : ∀ b, ¬ M b) (h : Rel P cx.nt B M I0 G w0 E s a w) (fn : Func) {r : SV} (hr : closed r = true) (hb : resBs cx s fn.results.toList = true) {j : Option Nat} {e : Nat} {ks : List CK} {l : List SV} (how : ownAt r = some (j, e, ks, l)) (he : ownQ cx s.mem (rawI cx fn s) r j e ks l) :
    ∃ v, (results fn a.tmps).run P w = .ok v w ∧ ∃ I', Fr B M w0 w ∧ (∀ b, I0 b → I' b) ∧ (∀ b, I' b → b < w.heap.size ∧ (I0 b ∨ B ≤ b)) ∧ ResOK I' B w v r := by
  unfold ownQ at he
  split at he
  · rename_i c ver hg
    split at he
    · rename_i v' e' ks' l' hm
      split at he
      · rename_i hq
        simp only [Bool.and_eq_true, Bool.not_eq_true'] at hq
        obtain ⟨⟨⟨p1, p2⟩, p3⟩, p4⟩ := hq
        have p1 := Nat.eq_of_beq_eq_true p1
        have p2 := Nat.eq_of_beq_eq_true p2
        have p3 := cksEq_eq _ _ p3
        obtain ⟨he, rfl⟩ := he
        subst p1 p2 p3
        have hraw0 : rawI cx fn s = rawSV cx fn s := rfl
        rw [hraw0] at hg he p4
        have hr0 : closed (ownPut j .any r) = true := by
          cases j with
          | none => rfl
          | some j => cases r <;> first | exact hr | (simp only [ownPut, closed] at hr ⊢; exact closedL_set _ _ hr)
        obtain ⟨E', s', q1, q2, q3, q4, q5⟩ := h.freeze (names (ownPut j .any (rawSV cx fn s))) s.mem (fun _ _ => .inl rfl)
        have hmc : lkO s'.mem c = some (.row v' e' ks' l') := by rw [q3, freezes_notin (by simpa using p4), hm]
        have hres := fun r => resOf_freeze (cx := cx) (s := s) (s' := s') rfl q2 q3 r
        have hraw : rawSV cx fn s' = rawSV cx fn s := by
          unfold rawSV
          split
          · exact (hres _).1
          · congr 1
            exact List.map_congr_left fun r _ => (hres r).1
        obtain ⟨v, h1, h2⟩ := results_run hP q1 fn (by rw [resBs_congr (fun r => (hres r).2)]; exact hb)
        rw [hraw] at h2
        have h3 := resolve_cv (m := s.mem) q1.ch _ _ (frozen_of q3) (ownPut_any j h2)
        have hrow : RowR E' w c e' ks' l' := by have := q1.ch c; rw [hmc] at this; exact this
        obtain ⟨r1, rr⟩ := hrow
        have hcv := ownGet_cv h2 hg
        obtain ⟨v2, c1, c2⟩ := hcv.inv_osl
        rw [hmc] at c1
        simp only [verOf, Option.some.injEq] at c1
        have hsel : ownSel j v = E'.cv c := c2 c1
        have hown : ∀ I2 : Nat → Prop, (∀ b, E'.I b → I2 b) → (∀ b, E'.loc c = some b → ¬ I2 b) → OwnR I2 B w (ownSel j v) e' ks' l' := fun I2 hi hn => by
          rw [hsel]
          rcases rr with ⟨r2, xs, r3, r4⟩ | ⟨z1, _, z3⟩
          rotate_left
          · exact ⟨r1, .inr ⟨z1, z3⟩⟩
          refine ⟨r1, .inl ⟨fun b hb => ?_, xs, r3, fun i j hi' hj => (r4 i j hi' hj).mono hi (fun _ _ => rfl)⟩⟩
          have hl : E'.loc c = some b := r2.trans hb
          obtain ⟨k1, k2, k3⟩ := q1.loc c b hl
          refine ⟨?_, k1, hn b hl⟩
          rcases k3 with k3 | k3 | ⟨_, k3⟩
          · exact k3
          · exact absurd k3 (hM b)
          · rw [hmc] at k3; simp [verOf] at k3
        unfold pinR at he
        split at he
        · rename_i hcl
          let I2 : Nat → Prop := fun b => E'.I b ∨ (B ≤ b ∧ b < w.heap.size ∧ E'.loc c ≠ some b)
          have hpin := pinV_conc (cx := cx) (E := E') (w := w) (mm := s.mem) (mm' := s'.mem) (I2 := I2) (fun b hb => .inl hb)
            (fun c' b t cs e00 e0 e1 => by
              obtain ⟨g1, g2, g3⟩ := q1.loc c' b e1
              have hne : E'.loc c ≠ some b := fun e2 => by
                have := q1.inj c c' b e2 e1
                subst this
                rw [hm] at e00; cases e00
              rcases g3 with g3 | g3 | ⟨g3, _⟩
              · exact .inr ⟨g3, g1, hne⟩
              · exact absurd g3 (hM b)
              · rw [e0] at g3; cases g3)
            (fun c t cs e1 => by
              rw [q3 c, freezes_none (fun v e ks l h => by rw [h] at e1; cases e1) _]
              exact e1) q1.ch _ _ hcl h3
          let E2 : Env := ⟨fun _ => none, fun _ => undef, I2, fun _ => undef⟩
          have h4 : CV E2 (lkO s'.mem) w v (ownPut j .any r) := eqR_cv (E := E2) (.conc _ _ hpin) he
          refine ⟨v, h1, I2, q1.fr, fun b hb => .inl (q1.i0 b hb), fun b hb => ?_, .inr (.inl ⟨j, e', ks', l', how, closed_conc (E := E2) _ _ hr0 h4, hown I2 (fun b hb => .inl hb) (fun b hb hn => ?_)⟩)⟩
          · rcases hb with hb | ⟨hb1, hb2, _⟩
            · exact new2 hM (q1.inew b hb)
            · exact ⟨hb2, .inr hb1⟩
          · rcases hn with hn | ⟨_, _, hn⟩
            · exact (q1.loc c b hb).2.1 hn
            · exact hn hb
        · have h4 : CV E' (lkO s'.mem) w v (ownPut j .any r) := eqR_cv h3 he
          exact ⟨v, h1, E'.I, q1.fr, q1.i0, fun b hb => new2 hM (q1.inew b hb), .inr (.inl ⟨j, e', ks', l', how, closed_conc _ _ hr0 h4, hown E'.I (fun _ h => h) (fun b hb => (q1.loc c b hb).2.1)⟩)⟩
      · exact he.elim
    · exact he.elim
  · rename_i hg
    split at he
    · obtain ⟨v, h1, h2⟩ := results_run hP h fn hb
      have hraw0 : rawI cx fn s = rawSV cx fn s := rfl
      simp only [ownGet] at hg
      rw [← hraw0, hg] at h2
      subst he
      exact ⟨v, h1, E.I, h.fr, h.i0, fun b hb => new2 hM (h.inew b hb), .inr (.inl ⟨none, e, ks, [], how, .any _, (fun v hv => (by cases hv)), .inr ⟨rfl, none, h2.inv_nilsl⟩⟩)⟩
    · rename_i j
      split at he
      · rename_i hcl
        obtain ⟨v, h1, h2⟩ := results_run hP h fn hb
        have hraw0 : rawI cx fn s = rawSV cx fn s := rfl
        rw [hraw0] at hg he hcl
        obtain ⟨he, rfl⟩ := he
        have hr0 : closed (ownPut (some j) .any r) = true := by
          cases r <;> first | exact hr | (simp only [ownPut, closed] at hr ⊢; exact closedL_set _ _ hr)
        have h4 : CV E (lkO s.mem) w v (ownPut (some j) .any r) := eqR_cv (ownPut_any (some j) h2) he
        exact ⟨v, h1, E.I, h.fr, h.i0, fun b hb => new2 hM (h.inew b hb), .inr (.inl ⟨some j, e, ks, [], how, closed_conc _ _ hr0 h4, (fun v hv => (by cases hv)), .inr ⟨rfl, none, ownGet_nil h2 hg⟩⟩)⟩
      · exact he.elim
  · exact he.elim

/-! ### What is handed over anew -/
theorem RowR.anew {E : Env} {w : World} {c e : Nat} {ks : List CK} {l : List SV} (h : RowR E w c e ks l) (hf : flatK ks = true) {J : Nat → Prop} (hb : ∀ b, E.loc c = some b → J b) : Conc J w (E.cv c) (.sl ks l) := by
  have h1 : RowR { E with I := J } w c e ks l := by
    obtain ⟨h1, ⟨h2, xs, ho, h4⟩ | ⟨h2, h3, h4⟩⟩ := h
    · exact ⟨h1, .inl ⟨h2, xs, ho, fun i j hi hj => by
        obtain ⟨f1, f2⟩ := flatK_get hf j hj
        exact flat_conc f1 f2 (shOk_at h1 hi hj) (h4 i j hi hj)⟩⟩
    · exact ⟨h1, .inr ⟨h2, h3, h4⟩⟩
  exact h1.toConc (fun _ h => h) hb
mutual
theorem plainR_cl : ∀ (v : SV), plainR v = true → closed v = true
  | .any, _ => rfl
  | .int _ _, _ => rfl
  | .bool _, _ => rfl
  | .tt, _ => rfl
  | .ff, _ => rfl
  | .str _, _ => rfl
  | .flt _, _ => rfl
  | .cpx _ _, _ => rfl
  | .nilsl, _ => rfl
  | .nilp, _ => rfl
  | .tup cs, h => by simp only [plainR] at h; simp only [closed]; exact plainRs_cl cs h
  | .agg cs, h => by simp only [plainR] at h; simp only [closed]; exact plainRs_cl cs h
  | .und, h => by cases h
  | .ptr _ _, h => by cases h
  | .ptx _ _, h => by cases h
  | .rptr _ _ _ _ _, h => by cases h
  | .osl _ _, h => by cases h
  | .sl _ _, h => by cases h
  | .ep _ _ _ _, h => by cases h
  | .oep _ _ _ _ _, h => by cases h
  | .fn _ _, h => by cases h
  | .nb _, h => by cases h
  | .fsl _ _, h => by cases h
  | .lp _ _, h => by cases h
  | .own _ _ _, h => by cases h
  | .mpp _, h => by cases h
  | .itp _, h => by cases h
  | .otl _ _ _ _, h => by cases h
  | .csl _ _ _, h => by cases h
theorem plainRs_cl : ∀ (l : List SV), plainRs l = true → closedL l = true
  | [], _ => rfl
  | v :: r, h => by
    simp only [plainRs, Bool.and_eq_true] at h
    simp only [closedL, Bool.and_eq_true]
    exact ⟨plainR_cl v h.1, plainRs_cl r h.2⟩
end
theorem CV.inv_slice {E : Env} {m : Nat → Option Chunk} {w : World} {x : Value} {ks : List CK} {l : List SV} (h : CV E m w x (.sl ks l)) : ∃ ad n cap, x = .slice ad n cap := by
  have h := h.inv_sl
  cases h with
  | sl0 a cap => exact ⟨_, _, _, rfl⟩
  | sl => exact ⟨_, _, _, rfl⟩
theorem frRow {E : Env} {mm : List (Nat × Chunk)} {w : World} {x : Value} {c ver v e : Nat} {ks : List CK} {l : List SV} {J : Nat → Prop} (hch : ∀ c, ChR E (lkO mm) w c (lkO mm c)) (hJ : ∀ c b, E.loc c = some b → (verOf (lkO mm c)).isSome = true → J b)
    (h : CV E (lkO mm) w x (.osl c ver)) (hm : lkO mm c = some (.row v e ks l)) (hv : Nat.beq v ver = true) (hf : flatK ks = true) : (∃ ad n cap, x = .slice ad n cap) ∧ Conc J w x (.sl ks l) := by
  have hv := Nat.eq_of_beq_eq_true hv
  subst hv
  obtain ⟨v2, e1, e2⟩ := h.inv_osl
  rw [hm] at e1
  have hx := e2 (by simpa [verOf] using e1)
  have hr := hch c
  rw [hm] at hr
  have hr : RowR E w c e ks l := hr
  obtain ⟨ad, cap, hs⟩ := hr.isSlice
  refine ⟨⟨ad, l.length, cap, hx.trans hs⟩, ?_⟩
  rw [hx]
  exact hr.anew hf (fun b hb => hJ c b hb (by rw [hm]; rfl))
mutual
theorem frE_conc {E : Env} {mm : List (Nat × Chunk)} {w : World} {J : Nat → Prop} (hch : ∀ c, ChR E (lkO mm) w c (lkO mm c)) (hJ : ∀ c b, E.loc c = some b → (verOf (lkO mm c)).isSome = true → J b) :
    ∀ (v r : SV) (x : Value), CV E (lkO mm) w x v → andL (frE mm v r) → closed r = true → Conc J w x r := by
  intro v r x h he hc
  unfold frE at he
  split at he
  · split at he
    · split at he
      · rename_i hb
        simp only [Bool.and_eq_true] at hb
        simp only [andL, and_true] at he
        subst he
        have := cksEq_eq _ _ hb.2.2
        subst this
        rename_i hm _
        exact (frRow hch hJ h hm hb.1 hb.2.1).2
      · exact he.1.elim
    · exact he.1.elim
  · split at he
    · split at he
      · rename_i hb
        simp only [Bool.and_eq_true] at hb
        simp only [andL, and_true] at he
        have := cksEq_eq _ _ hb.2.2
        subst this
        rename_i hm _
        obtain ⟨⟨ad, n, cap, rfl⟩, q⟩ := frRow hch hJ h hm hb.1 hb.2.1
        exact .csl _ ad n cap _ _ (fun hb => by rw [← he hb]; exact q)
      · exact he.1.elim
    · exact he.1.elim
  · simp only [andL, and_true] at he; subst he; rw [h.inv_nilsl]; exact .sl0 _ _ _
  · simp only [andL, and_true] at he
    rw [h.inv_nilsl]
    exact .csl _ none 0 0 _ _ (fun hb => by rw [he hb]; exact .sl0 _ _ _)
  · simp only [andL, and_true] at he
    subst he
    obtain ⟨ad, n, cap, rfl⟩ := h.inv_slice
    exact .csl _ ad n cap _ _ (fun hb => by cases hb)
  · rename_i a b
    obtain ⟨xs, rfl, h1, h2⟩ := h.inv_agg
    simp only [closed] at hc
    obtain ⟨h3, h4⟩ := frEs_conc hch hJ a b he hc
    exact .agg xs _ (by omega) (fun i => h4 i _ (h2 i))
  · rename_i a b
    obtain ⟨xs, rfl, h1, h2⟩ := h.inv_tup
    simp only [closed] at hc
    obtain ⟨h3, h4⟩ := frEs_conc hch hJ a b he hc
    exact .tup xs _ (by omega) (fun i => h4 i _ (h2 i))
  · split at he
    · rename_i hb
      simp only [Bool.and_eq_true] at hb
      exact plainR_conc _ hb.2 _ (closed_conc _ _ (plainR_cl _ hb.2) (eqTop_cv h he))
    · exact he.1.elim
theorem frEs_conc {E : Env} {mm : List (Nat × Chunk)} {w : World} {J : Nat → Prop} (hch : ∀ c, ChR E (lkO mm) w c (lkO mm c)) (hJ : ∀ c b, E.loc c = some b → (verOf (lkO mm c)).isSome = true → J b) :
    ∀ (a b : List SV), andL (frEs mm a b) → closedL b = true → a.length = b.length ∧ ∀ (i : Nat) (x : Value), CV E (lkO mm) w x (a.getD i .any) → Conc J w x (b.getD i .any)
  | [], [], _, _ => ⟨rfl, fun i x _ => by simpa using Conc.any x⟩
  | a :: r, b :: s, he, hc => by
    simp only [frEs] at he
    obtain ⟨h1, h2⟩ := andL_app he
    simp only [closedL, Bool.and_eq_true] at hc
    obtain ⟨h3, h4⟩ := frEs_conc hch hJ r s h2 hc.2
    refine ⟨by simp [h3], fun i x h => ?_⟩
    cases i with
    | zero => simpa using frE_conc hch hJ a b x (by simpa using h) h1 hc.1
    | succ i => simpa using h4 i x (by simpa using h)
  | [], _ :: _, he, _ => he.1.elim
  | _ :: _, [], he, _ => he.1.elim
end
theorem end_fr (hP : CxOk P cx) (hM : ∀ b, ¬ M b) (h : Rel P cx.nt B M I0 G w0 E s a w) (fn : Func) {r r0 : SV} (hb : resBs cx s fn.results.toList = true) (hf : frOf r = some r0) (he : match closed r0 with | true => andL (frE s.mem (rawI cx fn s) r0) | false => False) :
    ∃ v, (results fn a.tmps).run P w = .ok v w ∧ ∃ I', Fr B M w0 w ∧ (∀ b, I0 b → I' b) ∧ (∀ b, I' b → b < w.heap.size ∧ (I0 b ∨ B ≤ b)) ∧ ResOK I' B w v r := by
  split at he
  · rename_i hc
    obtain ⟨v, h1, h2⟩ := results_run hP h fn hb
    have hraw0 : rawI cx fn s = rawSV cx fn s := rfl
    rw [hraw0] at he
    refine ⟨v, h1, E.I, h.fr, h.i0, fun b hb => new2 hM (h.inew b hb), .inr (.inr ⟨r0, fun b => B ≤ b ∧ b < w.heap.size, hf, fun b hb => hb, frE_conc h.ch (fun c b e1 e2 => ?_) _ _ _ h2 he hc⟩)⟩
    obtain ⟨k1, _, k3⟩ := h.loc c b e1
    refine ⟨?_, k1⟩
    rcases k3 with k3 | k3 | ⟨_, k3⟩
    · exact k3
    · exact absurd k3 (hM b)
    · rw [k3] at e2; cases e2
  · exact he.elim

/-- The function's end. -/
theorem end_run (hP : CxOk P cx) (hM : ∀ b, ¬ M b) (h : Rel P cx.nt B M I0 G w0 E s a w) (fn : Func) {r : SV} (hr : closed r = true) (he : endQ cx fn s r) :
    a.defers = [] ∧ ∃ v, (results fn a.tmps).run P w = .ok v w ∧ ∃ I', Fr B M w0 w ∧ (∀ b, I0 b → I' b) ∧ (∀ b, I' b → b < w.heap.size ∧ (I0 b ∨ B ≤ b)) ∧ ResOK I' B w v r := by
  unfold endQ at he
  split at he
  · rename_i hb
    refine ⟨h.defers, ?_⟩
    cases hfo : frOf r with
    | some r0 =>
      simp only [hfo] at he
      exact end_fr hP hM h fn hb hfo he
    | none =>
    simp only [hfo] at he
    cases how : ownAt r with
    | some p =>
      obtain ⟨j, e, ks, l⟩ := p
      simp only [how] at he
      exact end_own hP hM h fn hr hb how he
    | none =>
    simp only [how] at he
    obtain ⟨E', s', q1, q2, q3, q4, q5⟩ := h.freeze (names (rawSV cx fn s)) s.mem (fun _ _ => .inl rfl)
    have hres := fun r => resOf_freeze (cx := cx) (s := s) (s' := s') rfl q2 q3 r
    have hraw : rawSV cx fn s' = rawSV cx fn s := by
      unfold rawSV
      split
      · exact (hres _).1
      · congr 1
        exact List.map_congr_left fun r _ => (hres r).1
    obtain ⟨v, h1, h2⟩ := results_run hP q1 fn (by rw [resBs_congr (fun r => (hres r).2)]; exact hb)
    rw [hraw] at h2
    have h3 := resolve_cv (m := s.mem) q1.ch _ _ (frozen_of q3) h2
    have hrs : retSV cx fn s = pinR cx s.mem (resolve s.mem (rawSV cx fn s)) := rfl
    rw [hrs] at he
    unfold pinR at he
    split at he
    · rename_i hcl
      let I2 : Nat → Prop := fun b => E'.I b ∨ (B ≤ b ∧ b < w.heap.size)
      have hpin := pinV_conc (cx := cx) (E := E') (w := w) (mm := s.mem) (mm' := s'.mem) (I2 := I2) (fun b hb => .inl hb)
        (fun c b _ _ _ e0 e1 => by
          obtain ⟨g1, g2, g3⟩ := q1.loc c b e1
          rcases g3 with g3 | g3 | ⟨g3, _⟩
          · exact .inr ⟨g3, g1⟩
          · exact absurd g3 (hM b)
          · rw [e0] at g3; cases g3)
        (fun c t cs e1 => by
          rw [q3 c, freezes_none (fun v e ks l h => by rw [h] at e1; cases e1) _]
          exact e1) q1.ch _ _ hcl h3
      let E2 : Env := ⟨fun _ => none, fun _ => undef, I2, fun _ => undef⟩
      have h4 : CV E2 (lkO s'.mem) w v r := eqR_cv (E := E2) (.conc _ _ hpin) he
      refine ⟨v, h1, I2, q1.fr, fun b hb => .inl (q1.i0 b hb), fun b hb => ?_, .inl (closed_conc (E := E2) _ _ hr h4)⟩
      rcases hb with hb | ⟨hb1, hb2⟩
      · exact new2 hM (q1.inew b hb)
      · exact ⟨hb2, .inr hb1⟩
    · have h4 : CV E' (lkO s'.mem) w v r := eqR_cv h3 he
      exact ⟨v, h1, E'.I, q1.fr, q1.i0, fun b hb => new2 hM (q1.inew b hb), .inl (closed_conc _ _ hr h4)⟩
  · exact he.elim

theorem args0_lk : ∀ (vs : List SV) (i t : Nat), lk .any (args0 i vs) t = if i ≤ t then vs.getD (t - i) .any else .any
  | [], i, t => by simp [args0, lk]
  | v :: r, i, t => by
    simp only [args0]
    rw [lk_cons, args0_lk r (i + 1) t]
    by_cases e : i = t
    · subst e; simp
    · rw [if_neg e]
      by_cases hi : i ≤ t
      · rw [if_pos hi, if_pos (by omega)]
        obtain ⟨d, rfl⟩ : ∃ d, t = i + 1 + d := ⟨t - (i + 1), by omega⟩
        have e1 : i + 1 + d - (i + 1) = d := by omega
        have e2 : i + 1 + d - i = d + 1 := by omega
        rw [e1, e2]; simp
      · rw [if_neg hi, if_neg (by omega)]

theorem lp0_of {I : Nat → Prop} : ∀ {args : List SV}, lp1.lp0 args = true → lpM args = [] ∧ ∀ (w : World) (x : Value) (i : Nat), ArgOK I w x (args.getD i .any) → Conc I w x ((args.map lpT).getD i .any)
  | [], _ => ⟨rfl, fun w x i _ => by simpa using Conc.any x⟩
  | v :: r, h => by
    have hv : ∀ t cs, v ≠ .lp t cs := fun t cs e => by subst e; simp [lp1.lp0] at h
    have h' : lp1.lp0 r = true := by cases v <;> first | exact h | exact absurd rfl (hv _ _)
    obtain ⟨h1, h2⟩ := lp0_of (I := I) h'
    refine ⟨by cases v <;> first | exact h1 | exact absurd rfl (hv _ _), fun w x i hx => ?_⟩
    cases i with
    | zero =>
      have hx : ArgOK I w x v := by simpa using hx
      have e : lpT v = v := by cases v <;> first | rfl | exact absurd rfl (hv _ _)
      simp only [List.map_cons, List.getD_cons_zero, e]
      rcases hx with hx | ⟨t, cs, _, _, e2, _⟩
      · exact hx
      · exact absurd e2 (hv _ _)
    | succ i => simpa using h2 w x i (by simpa using hx)

theorem noOwn_get : ∀ {cs : List SV}, noOwn cs = true → ∀ (i : Nat) (e : Nat) (ks : List CK) (l : List SV), cs.getD i .any ≠ .own e ks l
  | [], _, i, _, _, _, h => by simp at h
  | v :: r, hn, 0, e, ks, l, h => by
    have h : v = .own e ks l := by simpa using h
    subst h
    simp [noOwn] at hn
  | v :: r, hn, i + 1, e, ks, l, h => by
    have hr : noOwn r = true := by cases v <;> first | exact hn | (simp [noOwn] at hn; done)
    exact noOwn_get hr i e ks l (by simpa using h)
/-- Where the lent pointer leads to. -/
theorem lpB_of {I : Nat → Prop} {w : World} : ∀ {args : List SV} {xs : Array Value}, lp1 args = true → xs.size = args.length → (∀ i, ArgOK I w (xs.getD i undef) (args.getD i .any)) →
    ∃ b0 : Option Nat, (b0 = none ∧ lpM args = [] ∧ ∀ i, Conc I w (xs.getD i undef) ((args.map lpT).getD i .any)) ∨
      ∃ t cs b ys, b0 = some b ∧ lpM args = [(9990, .box t cs)] ∧ w.heap[b]? = some (.cells ys t (0, 0)) ∧ ys.size = cs.length ∧ (∀ i, Conc I w (ys.getD i undef) (cs.getD i .any)) ∧
        (∀ i, Conc I w (xs.getD i undef) ((args.map lpT).getD i .any) ∨ (xs.getD i undef = .pointer (some ⟨b, 0, none⟩) ∧ (args.map lpT).getD i .any = .ptr 9990 0)) ∧ b < w.heap.size ∧ ¬ I b
  | [], xs, _, hs, hx => ⟨none, .inl ⟨rfl, rfl, fun i => by simpa using Conc.any _⟩⟩
  | v :: r, xs, h1, hs, hx => by
    obtain ⟨xl⟩ := xs
    cases xl with
    | nil => simp at hs
    | cons x0 xl =>
    have hget : ∀ i, (⟨x0 :: xl⟩ : Array Value).getD (i + 1) undef = (⟨xl⟩ : Array Value).getD i undef := fun i => by simp [Array.getD_eq_getD_getElem?]
    have hx0 : ArgOK I w x0 v := by simpa [Array.getD_eq_getD_getElem?] using hx 0
    have hxr : ∀ i, ArgOK I w ((⟨xl⟩ : Array Value).getD i undef) (r.getD i .any) := fun i => by have := hx (i + 1); rw [hget] at this; simpa using this
    by_cases hv : ∃ t cs, v = .lp t cs
    · obtain ⟨t, cs, rfl⟩ := hv
      have hno : noOwn cs = true := by simp only [lp1, Bool.and_eq_true] at h1; exact h1.1
      have h1 : lp1.lp0 r = true := by simp only [lp1, Bool.and_eq_true] at h1; exact h1.2
      obtain ⟨g1, g2⟩ := lp0_of (I := I) h1
      rcases hx0 with hx0 | ⟨t', cs', b, ys, e1, e2, e3, e4, e5, e6, e7⟩
      · cases hx0
      · cases e1
        refine ⟨some b, .inr ⟨t, cs, b, ys, rfl, rfl, e3, e4, fun i => (e5 i).elim id (fun ⟨_, _, _, _, _, _, h, _⟩ => absurd h (noOwn_get hno i _ _ _)), fun i => ?_, e6, e7⟩⟩
        cases i with
        | zero => exact .inr ⟨by simpa [Array.getD_eq_getD_getElem?] using e2, rfl⟩
        | succ i => rw [hget]; exact .inl (by simpa using g2 w _ i (hxr i))
    · have hv' : ∀ t cs, v ≠ .lp t cs := fun t cs e => hv ⟨t, cs, e⟩
      have h1' : lp1 r = true := by cases v <;> first | exact h1 | exact absurd rfl (hv' _ _)
      have hm : lpM (v :: r) = lpM r := by cases v <;> first | rfl | exact absurd rfl (hv' _ _)
      have e : lpT v = v := by cases v <;> first | rfl | exact absurd rfl (hv' _ _)
      have hx0' : Conc I w x0 v := by
        rcases hx0 with hx0 | ⟨t, cs, _, _, e2, _⟩
        · exact hx0
        · exact absurd e2 (hv' _ _)
      obtain ⟨b0, hb⟩ := lpB_of (xs := ⟨xl⟩) h1' (by simpa using hs) hxr
      refine ⟨b0, ?_⟩
      rcases hb with ⟨k1, k2, k3⟩ | ⟨t, cs, b, ys, k0, k1, k2, k3, k4, k5, k6, k7⟩
      · refine .inl ⟨k1, by rw [hm]; exact k2, fun i => ?_⟩
        cases i with
        | zero => simpa [Array.getD_eq_getD_getElem?, e] using hx0'
        | succ i => rw [hget]; simpa using k3 i
      · refine .inr ⟨t, cs, b, ys, k0, by rw [hm]; exact k1, k2, k3, k4, fun i => ?_, k6, k7⟩
        cases i with
        | zero => exact .inl (by simpa [Array.getD_eq_getD_getElem?, e] using hx0')
        | succ i => rw [hget]; simpa using k5 i

/-- A function does what the executor says. -/
theorem fnOK (hP : CxOk P cx) {f : Nat} {fn : Func} (hf : P.funcs[f]? = some fn) (hnt : Nat.beq fn.ntmps cx.nt = true) {An : Nat → Option Ann} {labs : List Nat} {args : List SV} {r : SV} (hn : Nat.ble args.length fn.ntmps = true) (h : wpF cx An labs fn args r) : FnOK P f args r := by
  unfold wpF at h
  split at h
  · rename_i c hbody
    split at h
    · rename_i hca hcr
      intro I w xs hld hI hxs hx
      have hn' := Nat.le_of_ble_eq_true hn
      have hnt' := Nat.eq_of_beq_eq_true hnt
      simp only [Bool.and_eq_true] at hca
      obtain ⟨b0, hb0⟩ := lpB_of hca.2 hxs hx
      let E : Env := ⟨fun c => if c = 9990 then b0 else none, fun _ => undef, I, fun _ => undef⟩
      have hrel : Rel P cx.nt w.heap.size (fun _ => False) I (fun _ => undef) w E ⟨args0 0 (args.map lpT), lpM args⟩ ⟨xs ++ Array.replicate (fn.ntmps - xs.size) undef, []⟩ w := by
        have hmm : ∀ x v, Conc I w x v → CV E (lkO (lpM args)) w x v := fun x v h => .conc _ _ h
        rcases hb0 with ⟨h1, h2, h3⟩ | ⟨t, cs, b, ys, h0, h1, h2, h3, h4, h5, h6, h7⟩
        · subst h1
          refine ⟨rfl, ?_, Fr.refl _ _ _, Nat.le_refl _, fun b hb => hb, fun b hb => ⟨hI b hb, .inl hb⟩, fun c b hb => ?_, fun c c' b hb => ?_, fun t => ?_, fun c => ?_, fun w' hf => Laid.mono hf.size (fun k hk => hf.block k hk (fun h => h)) hld, rfl⟩
          · simp only [Array.size_append, Array.size_replicate]
            omega
          · simp only [E] at hb; split at hb <;> cases hb
          · simp only [E] at hb; split at hb <;> cases hb
          · dsimp only
            rw [args0_lk, if_pos (Nat.zero_le _), Nat.sub_zero]
            refine .conc _ _ ?_
            by_cases ht : t < xs.size
            · have e : (xs ++ Array.replicate (fn.ntmps - xs.size) undef).getD t undef = xs.getD t undef := by
                rw [Array.getD_eq_getD_getElem?, Array.getD_eq_getD_getElem?, Array.getElem?_append_left ht]
              rw [e]; exact h3 t
            · rw [List.getD_eq_getElem?_getD, List.getElem?_eq_none (by rw [List.length_map]; omega)]
              exact .any _
          · dsimp only; rw [h2]; trivial
        · subst h0
          have hlk : ∀ c, lkO (lpM args) c = if 9990 = c then some (.box t cs) else none := fun c => by rw [h1, lkO_cons]; rfl
          refine ⟨rfl, ?_, Fr.refl _ _ _, Nat.le_refl _, fun b hb => hb, fun b hb => ⟨hI b hb, .inl hb⟩, fun c b' hb => ?_, fun c c' b' hb hb' => ?_, fun t' => ?_, fun c => ?_, fun w' hf => Laid.mono hf.size (fun k hk => hf.block k hk (fun h => h)) hld, rfl⟩
          · simp only [Array.size_append, Array.size_replicate]
            omega
          · simp only [E] at hb
            split at hb
            · rename_i hc
              cases hb
              subst hc
              refine ⟨h6, h7, .inr (.inr ⟨rfl, ?_⟩)⟩
              dsimp only
              rw [hlk, if_pos rfl]; rfl
            · cases hb
          · simp only [E] at hb hb'
            split at hb <;> split at hb' <;> first | (cases hb; done) | (cases hb'; done) | (rename_i p q; rw [p, q])
          · dsimp only
            rw [args0_lk, if_pos (Nat.zero_le _), Nat.sub_zero]
            by_cases ht : t' < xs.size
            · have e : (xs ++ Array.replicate (fn.ntmps - xs.size) undef).getD t' undef = xs.getD t' undef := by
                rw [Array.getD_eq_getD_getElem?, Array.getD_eq_getD_getElem?, Array.getElem?_append_left ht]
              rw [e]
              rcases h5 t' with hh | ⟨h8, h9⟩
              · exact .conc _ _ hh
              · rw [h8, h9]
                exact .ptr 9990 0 b t cs (by rw [hlk, if_pos rfl]) (by simp [E])
            · rw [List.getD_eq_getElem?_getD, List.getElem?_eq_none (by rw [List.length_map]; omega)]
              exact .conc _ _ (.any _)
          · dsimp only
            rw [hlk]
            by_cases hc : 9990 = c
            · subst hc
              rw [if_pos rfl]
              exact ⟨b, ys, by simp [E], h2, h3, fun i => hmm _ _ (h4 i)⟩
            · rw [if_neg hc]; trivial
      refine calls_of_wp hf hbody (wp_mono (wpC_run hP (scopeH_ok hP) c 0 _ _ E _ w hrel h) (fun e a' w' hq => ?_))
      have fin : ∀ {E' : Env} {s' : St}, Rel P cx.nt w.heap.size (fun _ => False) I (fun _ => undef) w E' s' a' w' → endQ cx fn s' r → a'.defers = [] ∧ ∃ v, (results fn a'.tmps).run P w' = .ok v w' ∧ ∃ (x : Value) (I' : Nat → Prop), Ending.returned v = .returned x ∧ Fr w.heap.size (fun _ => False) w w' ∧ (∀ b, I b → I' b) ∧ (∀ b, I' b → b < w'.heap.size ∧ (I b ∨ w.heap.size ≤ b)) ∧ ResOK I' w.heap.size w' x r := by
        intro E' s' h1 h2
        obtain ⟨q1, v, q2, I', q3, q4, q5, q6⟩ := end_run hP (fun _ h => h) h1 fn hcr h2
        exact ⟨q1, v, q2, v, I', rfl, q3, q4, q5, q6⟩
      cases e with
      | normal => obtain ⟨E', s', h1, h2⟩ := hq; exact fin h1 h2
      | ret => obtain ⟨E', s', h1, h2⟩ := hq; exact fin h1 h2
      | exit id => obtain ⟨E', s', h1, h2⟩ := hq; exact h2.elim
      | goto l => obtain ⟨E', s', h1, h2⟩ := hq; exact h2.elim
      | panic ch => exact hq.elim
      | outgrown => exact hq.elim
    · exact h.elim
  · exact h.elim

/-- A function that is gone through where it is called. -/
theorem inlOK (hP : CxOk P cx) {f : Nat} {fn : Func} (hf : P.funcs[f]? = some fn) (hnt : Nat.beq fn.ntmps cx.nt = true) {An : List SV → List (Nat × Chunk) → Nat → Option Ann} {labs : List Nat} :
    InlOK P f (fun as m K => match Nat.ble as.length fn.ntmps with
      | true => wpI cx (An as m) labs fn as m K
      | false => False) := by
  intro B M I0 G w0 E m w as xs K h hxs hx hk
  split at hk
  · rename_i hn
    unfold wpI at hk
    split at hk
    · rename_i c hbody
      have hn' := Nat.le_of_ble_eq_true hn
      have hnt' := Nat.eq_of_beq_eq_true hnt
      have hrel : Rel P cx.nt B M I0 G w0 E ⟨args0 0 as, m⟩ ⟨xs ++ Array.replicate (fn.ntmps - xs.size) undef, []⟩ w := by
        refine ⟨rfl, ?_, h.fr, h.base, h.i0, h.inew, h.loc, h.inj, fun t => ?_, h.ch, h.ld, h.gv⟩
        · simp only [Array.size_append, Array.size_replicate]
          omega
        · dsimp only
          rw [args0_lk, if_pos (Nat.zero_le _), Nat.sub_zero]
          by_cases ht : t < xs.size
          · have e : (xs ++ Array.replicate (fn.ntmps - xs.size) undef).getD t undef = xs.getD t undef := by
              rw [Array.getD_eq_getD_getElem?, Array.getD_eq_getD_getElem?, Array.getElem?_append_left ht]
            rw [e]; exact hx t
          · rw [List.getD_eq_getElem?_getD, List.getElem?_eq_none (by omega)]
            exact .conc _ _ (.any _)
      refine calls_of_wp hf hbody (wp_mono (wpC_run hP (scopeH_ok hP) c 0 _ _ E _ w hrel hk) (fun e a' w' hq => ?_))
      have fin : ∀ {E' : Env} {s' : St}, Rel P cx.nt B M I0 G w0 E' s' a' w' → endI cx fn s' K → a'.defers = [] ∧ ∃ v, (results fn a'.tmps).run P w' = .ok v w' ∧ ∃ (x : Value) (r : SV) (m' : List (Nat × Chunk)) (E' : Env), Ending.returned v = .returned x ∧ Rel P 0 B M I0 G w0 E' ⟨[], m'⟩ ⟨#[], []⟩ w' ∧ CV E' (lkO m') w' x r ∧ K r m' := by
        intro E' s' h1 h2
        unfold endI at h2
        split at h2
        · rename_i hb
          rw [forceV_eq, forceM_eq] at h2
          obtain ⟨v, q1, q2⟩ := results_run hP h1 fn hb
          exact ⟨h1.defers, v, q1, v, _, s'.mem, E', rfl, ⟨rfl, rfl, h1.fr, h1.base, h1.i0, h1.inew, h1.loc, h1.inj, fun t => .conc _ _ (.any _), h1.ch, h1.ld, h1.gv⟩, q2, h2⟩
        · exact h2.elim
      cases e with
      | normal => obtain ⟨E', s', h1, h2⟩ := hq; exact fin h1 h2
      | ret => obtain ⟨E', s', h1, h2⟩ := hq; exact fin h1 h2
      | exit id => obtain ⟨E', s', h1, h2⟩ := hq; exact h2.elim
      | goto l => obtain ⟨E', s', h1, h2⟩ := hq; exact h2.elim
      | panic ch => exact hq.elim
      | outgrown => exact hq.elim
    · exact hk.elim
  · exact hk.elim
end
end Go.Rx

