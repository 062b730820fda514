/- The framework, part 21: code, from a state that is written out. -/
import Derived.Test.YtkmiakgpkgmcbaaFw20a
import Derived.Deep.LoopGhost
import Derived.ScopeJumps
import Derived.LoopN
namespace Go.Rx
set_option linter.unusedSectionVars false
open Go.RowKit

/-- What is asked at an exit, in a run. -/
def QR (P : Program) [Laid P] (cx : Cx) (B : Nat) (M I0 : Nat → Prop) (G : Nat → Value) (w0 : World) (Q : Ex → St → Prop) : Exit → Act → World → Prop
  | .normal, a, w => ∃ E s, Rel P cx.nt B M I0 G w0 E s a w ∧ Q .normal s
  | .ret, a, w => ∃ E s, Rel P cx.nt B M I0 G w0 E s a w ∧ Q .ret s
  | .exit id, a, w => ∃ E s, Rel P cx.nt B M I0 G w0 E s a w ∧ Q (.exit id) s
  | .goto l, a, w => ∃ E s, Rel P cx.nt B M I0 G w0 E s a w ∧ Q (.goto l) s
  | _, _, _ => False

/-- What is known at a head, in a run, at a number. -/
def HR (P : Program) [Laid P] (cx : Cx) (B : Nat) (M I0 : Nat → Prop) (G : Nat → Value) (w0 : World) (A : Ann) (n : Nat) (a : Act) (w : World) : Prop :=
  ∃ (x : A.ι) (E : Env), A.p x ∧ n = A.μ x ∧ Rel P cx.nt B M I0 G w0 E (A.F x) a w

section
variable {cx : Cx} {P : Program} [Laid P] {B : Nat} {M I0 : Nat → Prop} {G : Nat → Value} {w0 : World} {a : Act} {w : World} {Q Q' : Ex → St → Prop}

theorem QR.mono (hq : ∀ e s, Q e s → Q' e s) : ∀ e a w, QR P cx B M I0 G w0 Q e a w → QR P cx B M I0 G w0 Q' e a w := by
  intro e a w h
  cases e with
  | normal => obtain ⟨E, s, h1, h2⟩ := h; exact ⟨E, s, h1, hq _ _ h2⟩
  | ret => obtain ⟨E, s, h1, h2⟩ := h; exact ⟨E, s, h1, hq _ _ h2⟩
  | exit id => obtain ⟨E, s, h1, h2⟩ := h; exact ⟨E, s, h1, hq _ _ h2⟩
  | goto l => obtain ⟨E, s, h1, h2⟩ := h; exact ⟨E, s, h1, hq _ _ h2⟩
  | panic ch => exact h.elim
  | outgrown => exact h.elim

theorem atHead_HR {A : Ann} {q : A.ι → Prop} {E : Env} {s : St} (h : Rel P cx.nt B M I0 G w0 E s a w) (ha : atHead A s q) : ∃ x E', A.p x ∧ q x ∧ Rel P cx.nt B M I0 G w0 E' (A.F x) a w := by
  unfold atHead at ha
  rw [forceD_eq, forceD_eq] at ha
  obtain ⟨x, hx⟩ := ha
  obtain ⟨h1, h2⟩ := andL_app hx
  obtain ⟨h3, h4, _⟩ : A.p x ∧ q x ∧ True := h2
  obtain ⟨E', h'⟩ := h.nilc A.nc
  exact ⟨x, E', h3, h4, (h'.keep A.kt A.km).eqSt h1⟩

theorem brP_run {x : Bool} {p q : Prop} (h : brP x p q) : (x = true ∧ p) ∨ (x = false ∧ q) := by
  cases x with
  | true => exact .inl ⟨rfl, h.1 rfl⟩
  | false => exact .inr ⟨rfl, h.2 rfl⟩

/-- What a scope's rule must be good for. -/
def ScOk (P : Program) [Laid P] (cx : Cx) (B : Nat) (M I0 : Nat → Prop) (G : Nat → Value) (w0 : World) (sc : Code → Nat → St → (Ex → St → Prop) → Prop) : Prop :=
  ∀ (c : Code) (bl : Nat) (s : St) (Q : Ex → St → Prop) (E : Env) (a : Act) (w : World), Rel P cx.nt B M I0 G w0 E s a w → sc c bl s Q → (Code.scope c).wp P (QR P cx B M I0 G w0 Q) a w

theorem noSc_ok : ScOk P cx B M I0 G w0 noSc := fun _ _ _ _ _ _ _ _ h => h.elim

theorem Rel.keepS {E : Env} {s : St} (h : Rel P cx.nt B M I0 G w0 E s a w) (A : Ann) (ks : List Nat) : Rel P cx.nt B M I0 G w0 E (keepS A ks s) a w := by
  unfold Rx.keepS
  split
  · split
    · exact h
    · exact h.keep _ _
  · exact h.keep _ _

/-- What is asked where roads join is good for what comes behind. -/
def JOk (P : Program) [Laid P] (cx : Cx) (B : Nat) (M I0 : Nat → Prop) (G : Nat → Value) (w0 : World) (J : Option (Nat × (St → Prop))) (c : Code) (Q : Ex → St → Prop) : Prop :=
  ∀ k hk, J = some (k, hk) → ∀ d, findT k c = some d → ∀ (E : Env) (s : St) (a : Act) (w : World), Rel P cx.nt B M I0 G w0 E s a w → hk s → d.wp P (QR P cx B M I0 G w0 Q) a w
theorem JOk.none {c : Code} {Q : Ex → St → Prop} : JOk P cx B M I0 G w0 .none c Q := fun _ _ h => by cases h

mutual
theorem wpJ_run (hP : CxOk P cx) {sc : Code → Nat → St → (Ex → St → Prop) → Prop} (hsc : ScOk P cx B M I0 G w0 sc) :
    ∀ (c : Code) (An : Nat → Option Ann) (J : Option (Nat × (St → Prop))) (bl : Nat) (s : St) (Q : Ex → St → Prop) (E : Env) (a : Act) (w : World), JOk P cx B M I0 G w0 J c Q → Rel P cx.nt B M I0 G w0 E s a w → wpJ cx sc c An J bl s Q → c.wp P (QR P cx B M I0 G w0 Q) a w
  | .skip, An, _, _, s, Q, E, a, w, _hJ0, h, hc => by
    simp only [wpJ] at hc
    exact wp_skip ⟨E, s, h, hc⟩
  | .label _, An, _, _, s, Q, E, a, w, _hJ0, h, hc => by
    simp only [wpJ] at hc
    exact wp_label ⟨E, s, h, hc⟩
  | .region id ops false, An, _, _, s, Q, E, a, w, _hJ0, h, hc => by
    simp only [wpJ] at hc
    exact regionI_run (K := fun s => Q .normal s) hP (fun E s a w h hr => ⟨E, s, h, hr⟩) h hc
  | .region id ops true, An, _, _, s, Q, E, a, w, _hJ0, h, hc => by
    simp only [wpJ] at hc
    split at hc
    · rename_i hed
      exact regionD_run (K := fun s => Q .normal s) hP (fun E s a w h hr => ⟨E, s, h, hr⟩) h hed hc
    · exact hc.elim
  | .seq x y, An, J, bl, s, Q, E, a, w, hJ, h, hc => by
    have step : ∀ (N : St → Prop), (∀ E' s' a' w', Rel P cx.nt B M I0 G w0 E' s' a' w' → N s' → y.wp P (QR P cx B M I0 G w0 Q) a' w') → wpJ cx sc x An none bl s (fun e s => match e with
        | .normal => N s
        | e => Q e s) → (Code.seq x y).wp P (QR P cx B M I0 G w0 Q) a w := fun N hN hc => by
      refine wp_seq (wp_mono (wpJ_run hP hsc x An none bl s _ E a w JOk.none h hc) (fun e a w hq => ?_))
      cases e with
      | normal => obtain ⟨E', s', h1, h2⟩ := hq; exact hN E' s' a w h1 h2
      | ret => exact hq
      | exit id => exact hq
      | goto l => exact hq
      | panic ch => exact hq.elim
      | outgrown => exact hq.elim
    cases J with
    | some J =>
      obtain ⟨k, hk⟩ := J
      simp only [wpJ] at hc
      cases hr : isR k y with
      | true =>
        simp only [hr] at hc
        exact step _ (fun E' s' a' w' h1 h2 => hJ k hk rfl y (by simp only [findT, hr]) E' s' a' w' h1 h2) hc
      | false =>
        simp only [hr] at hc
        exact step _ (fun E' s' a' w' h1 h2 => wpJ_run hP hsc y An (some (k, hk)) bl s' Q E' a' w' (fun k' hk' e d hd => by
          cases e
          exact hJ k hk rfl d (by simp only [findT, hr]; exact hd)) h1 (by rw [forceD_eq] at h2; exact h2)) hc
    | none =>
      simp only [wpJ] at hc
      cases hs : spineJ An y with
      | none =>
        simp only [hs] at hc
        exact step _ (fun E' s' a' w' h1 h2 => wpJ_run hP hsc y An (some (999999999, fun _ => False)) bl s' Q E' a' w' (fun k' hk' e d hd => by
          cases e
          exact fun _ _ _ _ _ hf => hf.elim) h1 (by rw [forceD_eq] at h2; exact h2)) hc
      | some kA =>
        obtain ⟨k, A⟩ := kA
        simp only [hs] at hc
        cases hr : isR k y with
        | true =>
          simp only [hr] at hc
          refine step _ (fun E' s' a' w' h1 h2 => ?_) hc.1
          obtain ⟨z, E2, hz, _, hrel⟩ := atHead_HR h1 h2
          exact wpJ_run hP hsc y _ none bl (A.F z) Q E2 a' w' JOk.none hrel (hc.2 z hz)
        | false =>
          simp only [hr] at hc
          refine step _ (fun E' s' a' w' h1 h2 => wpJ_run hP hsc y An (some (k, fun s => atHead A s (fun _ => True))) bl s' Q E' a' w' (fun k' hk' e d hd => ?_) h1 (by rw [forceD_eq] at h2; exact h2)) hc.1
          cases e
          intro E3 s3 a3 w3 h3 h4
          obtain ⟨z, E2, hz, _, hrel⟩ := atHead_HR h3 h4
          exact wpAt_run hP hsc y k _ bl (A.F z) Q E2 a3 w3 hrel (hc.2 z hz) d hd
  | .cond c x y, An, _, bl, s, Q, E, a, w, _hJ0, h, hc => by
    simp only [wpJ] at hc
    have hv := h.eval c
    split at hc
    · rename_i e; rw [e] at hv
      exact wp_cond_true hv.inv_tt (wpJ_run hP hsc x _ none bl s Q E a w JOk.none h hc)
    · rename_i e; rw [e] at hv
      exact wp_cond_false hv.inv_ff (wpJ_run hP hsc y _ none bl s Q E a w JOk.none h hc)
    · rename_i b e
      split at hc
      · rename_i t
        have hb := hv
        rw [e] at hb
        have hb := hb.inv_bool
        have upd' : ∀ (v : SV), CV E (lkO s.mem) w (a.tmps.getD t undef) v → Rel P cx.nt B M I0 G w0 E ⟨(t, v) :: s.tm, s.mem⟩ a w := fun v hv => by
          refine ⟨h.defers, h.tsize, h.fr, h.base, h.i0, h.inew, h.loc, h.inj, fun t' => ?_, h.ch, h.ld, h.gv⟩
          dsimp only
          rw [lk_cons]
          by_cases e : t = t'
          · subst e; rw [if_pos rfl]; exact hv
          · rw [if_neg e]; exact h.tm t'
        have hc' : b = b → ((b = true ∧ wpJ cx sc x An none bl ⟨(t, .tt) :: s.tm, s.mem⟩ Q) ∨ (b = false ∧ wpJ cx sc y An none bl ⟨(t, .ff) :: s.tm, s.mem⟩ Q)) := fun _ => by
          split at hc
          · split at hc
            · exact .inl ⟨rfl, hc⟩
            · exact .inr ⟨rfl, hc⟩
          · exact brP_run hc
        rcases hc' rfl with ⟨hx, hd⟩ | ⟨hx, hd⟩
        · subst hx
          refine wp_cond_true hb (wpJ_run hP hsc x _ none bl _ Q E a w JOk.none (upd' .tt ?_) hd)
          have : a.tmps.getD t undef = .bool true := hb
          rw [this]; exact .conc _ _ .tt
        · subst hx
          refine wp_cond_false hb (wpJ_run hP hsc y _ none bl _ Q E a w JOk.none (upd' .ff ?_) hd)
          have : a.tmps.getD t undef = .bool false := hb
          rw [this]; exact .conc _ _ .ff
      · exact hc.elim
    · rename_i l e
      split at hc
      · rename_i t
        have hb := hv
        rw [e] at hb
        obtain ⟨b, hb, hbl⟩ := hb.inv_nb
        have upd' : ∀ (v : SV), CV E (lkO s.mem) w (a.tmps.getD t undef) v → Rel P cx.nt B M I0 G w0 E ⟨(t, v) :: s.tm, s.mem⟩ a w := fun v hv => by
          refine ⟨h.defers, h.tsize, h.fr, h.base, h.i0, h.inew, h.loc, h.inj, fun t' => ?_, h.ch, h.ld, h.gv⟩
          dsimp only
          rw [lk_cons]
          by_cases e : t = t'
          · subst e; rw [if_pos rfl]; exact hv
          · rw [if_neg e]; exact h.tm t'
        have hc' : (b = true → l = [] ∧ wpJ cx sc x An none bl ⟨(t, .tt) :: s.tm, s.mem⟩ Q) ∧ (b = false → wpJ cx sc y An none bl ⟨(t, .ff) :: s.tm, s.mem⟩ Q) := by
          split at hc
          · rename_i hp
            refine ⟨fun hbt => ?_, fun _ => hc⟩
            have hl := hbl hbt
            rw [hl] at hp
            unfold plNe at hp
            split at hp <;> cases hp
          · exact ⟨fun hbt => ⟨hbl hbt, hc.1 (hbl hbt)⟩, fun _ => hc.2⟩
        cases b with
        | true =>
          refine wp_cond_true hb (wpJ_run hP hsc x _ none bl _ Q E a w JOk.none (upd' .tt ?_) (hc'.1 rfl).2)
          have : a.tmps.getD t undef = .bool true := hb
          rw [this]; exact .conc _ _ .tt
        | false =>
          refine wp_cond_false hb (wpJ_run hP hsc y _ none bl _ Q E a w JOk.none (upd' .ff ?_) (hc'.2 rfl))
          have : a.tmps.getD t undef = .bool false := hb
          rw [this]; exact .conc _ _ .ff
      · exact hc.elim
    · exact hc.elim
  | .block id c, An, _, _, s, Q, E, a, w, _hJ0, h, hc => by
    simp only [wpJ] at hc
    refine wp_block (wp_mono (wpJ_run hP hsc c _ none id s _ E a w JOk.none h hc) (fun e a w hq => ?_))
    cases e with
    | normal => exact hq
    | ret => exact hq
    | exit j =>
      obtain ⟨E', s', h1, h2⟩ := hq
      simp only [Exit.inBlock]
      dsimp only at h2
      split at h2
      · rename_i e
        rw [if_pos (Nat.eq_of_beq_eq_true e)]
        exact ⟨E', s', h1, h2⟩
      · rename_i e
        rw [if_neg (fun e' => by subst e'; rw [Nat.beq_refl] at e; cases e)]
        exact ⟨E', s', h1, h2⟩
    | goto l => exact hq
    | panic ch => exact hq.elim
    | outgrown => exact hq.elim
  | .loop c, An, _, bl, s, Q, E, a, w, _hJ0, h, hc => by
    simp only [wpJ] at hc
    split at hc
    · rename_i A hA
      obtain ⟨h0, hr⟩ := hc
      obtain ⟨x, E', hx, _, hrel⟩ := atHead_HR h h0
      refine wp_loop_ghost (HR P cx B M I0 G w0 A) (A.μ x) ⟨x, E', hx, rfl, hrel⟩ (fun n a w hI => ?_)
      obtain ⟨y, E2, hy, rfl, hrel2⟩ := hI
      refine wp_mono (wpJ_run hP hsc c _ none bl (A.F y) _ E2 a w JOk.none hrel2 (hr y hy)) (fun e a w hq => ?_)
      cases e with
      | normal =>
        obtain ⟨E3, s3, h3, h4⟩ := hq
        obtain ⟨z, E4, hz, hlt, hrel4⟩ := atHead_HR h3 h4
        exact ⟨A.μ z, hlt, z, E4, hz, rfl, hrel4⟩
      | ret => exact hq
      | exit id => exact hq
      | goto l => exact hq
      | panic ch => exact hq.elim
      | outgrown => exact hq.elim
    · split at hc
      · rename_i A hA
        refine wp_loop_rounds A.nc.length ?_
        have key : ∀ (ks : List Nat) (k : Nat) (s : St) (E : Env) (a : Act) (w : World), Rel P cx.nt B M I0 G w0 E s a w → unrollL A ks (wpJ cx sc c An none bl) Q k s → Code.rounds P c (QR P cx B M I0 G w0 Q) k a w := by
          intro ks k
          induction k with
          | zero => intro s E a w h hc; exact hc.elim
          | succ k ih =>
            intro s E a w h hc
            rw [rounds_succ]
            refine wp_mono (wpJ_run hP hsc c _ none bl s _ E a w JOk.none h hc) (fun e a w hq => ?_)
            cases e with
            | normal => obtain ⟨E', s', h1, h2⟩ := hq; exact ih _ E' a w (h1.keepS A ks) (by dsimp only at h2; rw [forceS_eq] at h2; exact h2)
            | ret => exact hq
            | exit id => exact hq
            | goto l => exact hq
            | panic ch => exact hq.elim
            | outgrown => exact hq.elim
        exact key _ _ s E a w h hc
      · exact hc.elim
  | .scope c, An, _, bl, s, Q, E, a, w, _hJ0, h, hc => by
    simp only [wpJ] at hc
    exact hsc c bl s Q E a w h hc
  | .exit id, An, _, _, s, Q, E, a, w, _hJ0, h, hc => by
    simp only [wpJ] at hc
    exact wp_exit ⟨E, s, h, hc⟩
  | .goto l, An, _, _, s, Q, E, a, w, _hJ0, h, hc => by
    simp only [wpJ] at hc
    exact wp_goto ⟨E, s, h, hc⟩
  | .ret, An, _, _, s, Q, E, a, w, _hJ0, h, hc => by
    simp only [wpJ] at hc
    exact wp_ret ⟨E, s, h, hc⟩
  | .rangeFunc _ _ _ _, _, _, _, _, _, _, _, _, _, _, hc => by simp only [wpJ] at hc
  | .refuse _, _, _, _, _, _, _, _, _, _, _, hc => by simp only [wpJ] at hc
theorem wpAt_run (hP : CxOk P cx) {sc : Code → Nat → St → (Ex → St → Prop) → Prop} (hsc : ScOk P cx B M I0 G w0 sc) :
    ∀ (c : Code) (k : Nat) (An : Nat → Option Ann) (bl : Nat) (s : St) (Q : Ex → St → Prop) (E : Env) (a : Act) (w : World), Rel P cx.nt B M I0 G w0 E s a w → wpAt cx sc c k An bl s Q → ∀ d, findT k c = some d → d.wp P (QR P cx B M I0 G w0 Q) a w
  | .seq x y, k, An, bl, s, Q, E, a, w, h, hc, d, hd => by
    simp only [wpAt] at hc
    simp only [findT] at hd
    cases hr : isR k y with
    | true =>
      simp only [hr] at hc hd
      cases hd
      exact wpJ_run hP hsc y An none bl s Q E a w JOk.none h hc
    | false =>
      simp only [hr] at hc hd
      exact wpAt_run hP hsc y k An bl s Q E a w h hc d hd
  | .skip, _, _, _, _, _, _, _, _, _, hc, _, _ => by simp only [wpAt] at hc
  | .label _, _, _, _, _, _, _, _, _, _, hc, _, _ => by simp only [wpAt] at hc
  | .region _ _ _, _, _, _, _, _, _, _, _, _, hc, _, _ => by simp only [wpAt] at hc
  | .cond _ _ _, _, _, _, _, _, _, _, _, _, hc, _, _ => by simp only [wpAt] at hc
  | .block _ _, _, _, _, _, _, _, _, _, _, hc, _, _ => by simp only [wpAt] at hc
  | .loop _, _, _, _, _, _, _, _, _, _, hc, _, _ => by simp only [wpAt] at hc
  | .scope _, _, _, _, _, _, _, _, _, _, hc, _, _ => by simp only [wpAt] at hc
  | .exit _, _, _, _, _, _, _, _, _, _, hc, _, _ => by simp only [wpAt] at hc
  | .goto _, _, _, _, _, _, _, _, _, _, hc, _, _ => by simp only [wpAt] at hc
  | .ret, _, _, _, _, _, _, _, _, _, hc, _, _ => by simp only [wpAt] at hc
  | .rangeFunc _ _ _ _, _, _, _, _, _, _, _, _, _, hc, _, _ => by simp only [wpAt] at hc
  | .refuse _, _, _, _, _, _, _, _, _, _, hc, _, _ => by simp only [wpAt] at hc
end

theorem wpC_run (hP : CxOk P cx) {An : Nat → Option Ann} {sc : Code → Nat → St → (Ex → St → Prop) → Prop} (hsc : ScOk P cx B M I0 G w0 sc) (c : Code) (bl : Nat) (s : St) (Q : Ex → St → Prop) (E : Env) (a : Act) (w : World) (h : Rel P cx.nt B M I0 G w0 E s a w) (hc : wpC cx An sc c bl s Q) : c.wp P (QR P cx B M I0 G w0 Q) a w :=
  wpJ_run hP hsc c An none bl s Q E a w JOk.none h hc
end
end Go.Rx

