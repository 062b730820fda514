/- The framework, part 16: regions, in the order of the text. -/
import Derived.Test.YtkmiakgpkgmcbaaFw15
namespace Go.Rx
set_option linter.unusedSectionVars false
open Go.RowKit

/-- What an operation has come to, its test decided. -/
def Refines (E e : Eff) : Prop := e.ch = E.ch ∧ e.rd = E.rd ∧ (e.v = E.v ∨ (E.v = .bool true ∧ e.v = .tt) ∨ (E.v = .bool false ∧ e.v = .ff))

def Step (cx : Cx) (all : List Oper) (s : St) (o : Oper) (e : Eff) : Prop :=
  (wantB all s.tm o = some true ∧ obH (opx cx s.mem (ev s.tm) o).ob ∧ Refines (opx cx s.mem (ev s.tm) o) e) ∨ (wantB all s.tm o = some false ∧ e.v = .und ∧ e.ch = [] ∧ e.rd = [])

/-- A way through a region's operations. -/
def Path (cx : Cx) (all : List Oper) : List Oper → St → List Eff → Prop
  | [], _, es => es = []
  | o :: r, s, es => ∃ e es', es = e :: es' ∧ dOk cx o.dst = true ∧ Step cx all s o e ∧ Path cx all r (upd s o.dst e.v e.ch) es'

theorem obA_and {o : Option Prop} {p : Prop} (h : obA o p) : obH o ∧ p := by
  cases o with
  | none => exact ⟨trivial, h⟩
  | some q => exact h

def endS : List Oper → List Eff → St → St
  | o :: r, e :: es, s => endS r es (upd s o.dst e.v e.ch)
  | _, _, s => s

def endF : Nat → List Eff → List (Nat × Eff) → List (Nat × Eff)
  | _, [], fs => fs
  | i, e :: es, fs => endF (i + 1) es ((i, e) :: fs)

section
variable {cx : Cx} {P : Program} [Laid P] {B : Nat} {M I0 : Nat → Prop} {G : Nat → Value} {w0 : World} {E : Env} {s : St} {a : Act} {w : World} {o : Oper} {K : Act → World → Prop} {Q : Exit → Act → World → Prop}

theorem plV_is (pl : Bool) (v : SV) : plV pl v = v ∨ (v = .bool true ∧ plV pl v = .tt) ∨ (v = .bool false ∧ plV pl v = .ff) := by
  cases pl with
  | false => exact .inl rfl
  | true =>
    cases v with
    | bool b => cases b; exact .inr (.inr ⟨rfl, rfl⟩); exact .inr (.inl ⟨rfl, rfl⟩)
    | _ => exact .inl rfl

theorem wpR_path (all : List Oper) (R : St → List (Nat × Eff) → Prop) : ∀ (l : List Oper) (i : Nat) (s : St) (fs : List (Nat × Eff)), wpR cx all R l i s fs → ∃ es, Path cx all l s es ∧ R (endS l es s) (endF i es fs)
  | [], i, s, fs, h => ⟨[], rfl, h⟩
  | o :: r, i, s, fs, h => by
    unfold wpR at h
    split at h
    · rename_i hd hw
      generalize hE : opx cx s.mem (ev s.tm) o = E at h
      obtain ⟨ob, v, ch, rd⟩ := E
      dsimp only at h
      obtain ⟨h1, h2⟩ := obA_and h
      rw [forceV_eq, forceB_eq] at h2
      have hpv := plV_is cx.pl v
      generalize plV cx.pl v = pv at h2 hpv
      split at h2
      · rename_i b _
        have hvb : v = .bool b := by
          rcases hpv with h | ⟨_, h⟩ | ⟨_, h⟩
          · exact h.symm
          · cases h
          · cases h
        subst hvb
        cases b with
        | true =>
          obtain ⟨es, p1, p2⟩ := wpR_path all R r (i + 1) _ _ (by have := h2.1 rfl; rw [forceD_eq] at this; exact this)
          exact ⟨⟨ob, .tt, ch, rd⟩ :: es, ⟨_, es, rfl, hd, .inl ⟨hw, by rw [hE]; exact h1, by rw [hE]; exact ⟨rfl, rfl, .inr (.inl ⟨rfl, rfl⟩)⟩⟩, p1⟩, p2⟩
        | false =>
          obtain ⟨es, p1, p2⟩ := wpR_path all R r (i + 1) _ _ (by have := h2.2 rfl; rw [forceD_eq] at this; exact this)
          exact ⟨⟨ob, .ff, ch, rd⟩ :: es, ⟨_, es, rfl, hd, .inl ⟨hw, by rw [hE]; exact h1, by rw [hE]; exact ⟨rfl, rfl, .inr (.inr ⟨rfl, rfl⟩)⟩⟩, p1⟩, p2⟩
      · obtain ⟨es, p1, p2⟩ := wpR_path all R r (i + 1) _ _ h2
        exact ⟨⟨ob, _, ch, rd⟩ :: es, ⟨_, es, rfl, hd, .inl ⟨hw, by rw [hE]; exact h1, by rw [hE]; exact ⟨rfl, rfl, hpv⟩⟩, p1⟩, p2⟩
    · rename_i hd hw
      obtain ⟨es, p1, p2⟩ := wpR_path all R r (i + 1) _ _ h
      exact ⟨⟨none, .und, [], []⟩ :: es, ⟨_, es, rfl, hd, .inr ⟨hw, rfl, rfl, rfl⟩, p1⟩, p2⟩
    · exact h.elim

theorem wantB_run (h : Rel P cx.nt B M I0 G w0 E s a w) {ops : Array Oper} {b : Bool} (hw : wantB ops.toList s.tm o = some b) : Region.wanted o (yielded ops a.tmps) = b := by
  unfold wantB at hw
  unfold Region.wanted
  cases hg : o.guard with
  | none => simp only [hg, Option.some.injEq] at hw; exact hw
  | some g =>
    obtain ⟨j, want⟩ := g
    simp only [hg] at hw
    cases hj : ops.toList[j]? with
    | none => simp only [hj] at hw; cases hw
    | some oj =>
      simp only [hj] at hw
      cases hd : oj.dst with
      | none => simp only [hd] at hw; cases hw
      | some d =>
        simp only [hd] at hw
        have hy : yielded ops a.tmps j = (match a.tmps[d]? with | some (.bool b) => some b | _ => none) := by
          have hj' : ops[j]? = some oj := by simpa using hj
          simp only [yielded, hj', hd, Option.bind_some]
          cases a.tmps[d]? with
          | none => rfl
          | some u => cases u <;> rfl
        have ht := h.tm d
        have hv : ∀ v, a.tmps.getD d undef = .bool v → a.tmps[d]? = some (.bool v) := fun v hv => by
          rw [Array.getD_eq_getD_getElem?] at hv
          cases hq : a.tmps[d]? with
          | none => rw [hq] at hv; simp [undef] at hv
          | some u => rw [hq] at hv; simp at hv; rw [hv]
        have hu : a.tmps.getD d undef = undef → (match a.tmps[d]? with | some (.bool b) => some b | _ => none) = none := fun hv => by
          rw [Array.getD_eq_getD_getElem?] at hv
          cases hq : a.tmps[d]? with
          | none => rfl
          | some u => rw [hq] at hv; simp at hv; rw [hv]; rfl
        dsimp only
        rw [hy]
        split at hw <;> (try cases hw) <;> rename_i e1 <;> rw [e1] at ht
        · rw [hv _ ht.inv_tt]; rfl
        · rw [hv _ ht.inv_ff]; rfl
        · rw [hv _ ht.inv_tt]; rfl
        · rw [hv _ ht.inv_ff]; rfl
        · rw [hu ht.inv_und]; rfl

theorem Rel.refine {v v' : SV} {d : Option Nat} {ch : List (Nat × Chunk)} (h : Rel P cx.nt B M I0 G w0 E (upd s d v ch) a w) (hv : ∀ m x, CV E m w x v → CV E m w x v') : Rel P cx.nt B M I0 G w0 E (upd s d v' ch) a w := by
  refine ⟨h.defers, h.tsize, h.fr, h.base, h.i0, h.inew, h.loc, h.inj, fun t => ?_, h.ch, h.ld, h.gv⟩
  have ht := h.tm t
  cases d with
  | none => exact ht
  | some d =>
    simp only [upd] at ht ⊢
    rw [lk_cons] at ht ⊢
    by_cases e : d = t
    · rw [if_pos e] at ht ⊢; exact hv _ _ ht
    · rw [if_neg e] at ht ⊢; exact ht

/-- One operation of a region. -/
theorem op_step (hP : CxOk P cx) (h : Rel P cx.nt B M I0 G w0 E s a w) {ops : Array Oper} {i : Nat} {e : Eff} (hi : ops[i]? = some o) (hd : dOk cx o.dst = true) (hs : Step cx ops.toList s o e)
    (hK : ∀ E' a' w', Rel P cx.nt B M I0 G w0 E' (upd s o.dst e.v e.ch) a' w' → K a' w') : wpOp P ops Q i K a w := by
  unfold wpOp
  simp only [hi]
  rcases hs with ⟨hw, hob, h1, h2, h3⟩ | ⟨hw, h1, h2, h3⟩
  · rw [if_pos (wantB_run h hw)]
    refine .inl (sound_op hP o B M I0 G w0 E s a w K Q h hd hob (fun E' a' w' h' => hK E' a' w' ?_))
    rw [h1]
    rcases h3 with h3 | ⟨h3, h4⟩ | ⟨h3, h4⟩
    · rw [h3]; exact h'
    · rw [h4]
      rw [h3] at h'
      exact h'.refine (fun m x hx => by rw [hx.inv_bool]; exact .conc _ _ .tt)
    · rw [h4]
      rw [h3] at h'
      exact h'.refine (fun m x hx => by rw [hx.inv_bool]; exact .conc _ _ .ff)
  · rw [if_neg (by rw [wantB_run h hw]; simp)]
    rw [h1, h2] at hK
    exact hK E _ w (h.val (dOk_lt hd) (.conc _ _ .und))

/-- The operations, in the order of the text. -/
theorem ops_run (hP : CxOk P cx) {ops : Array Oper} {R : St → Prop} (hR : ∀ E s a w, Rel P cx.nt B M I0 G w0 E s a w → R s → Q .normal a w) :
    ∀ (l : List Oper) (i : Nat) (E : Env) (s : St) (es : List Eff) (a : Act) (w : World), (∀ j, l[j]? = ops[i + j]?) → Rel P cx.nt B M I0 G w0 E s a w → Path cx ops.toList l s es → R (endS l es s) → wpOps P ops Q (List.range' i l.length) a w
  | [], i, E, s, es, a, w, _, h, hp, hr => by
    simp only [endS] at hr
    simp only [List.length_nil, List.range'_zero, wpOps]
    exact hR E s a w h hr
  | o :: r, i, E, s, es, a, w, hl, h, hp, hr => by
    obtain ⟨e, es', rfl, hd, hs, hp'⟩ := hp
    simp only [List.length_cons, List.range'_succ, wpOps_cons]
    refine op_step hP h (by simpa using (hl 0).symm) hd hs (fun E' a' w' h' => ?_)
    exact ops_run hP hR r (i + 1) E' _ es' a' w' (fun j => by have := hl (j + 1); simpa [Nat.add_assoc, Nat.add_comm 1 j] using this) h' hp' hr

theorem region_run (hP : CxOk P cx) {ops : Array Oper} {id : Nat} {R : St → Prop} (hR : ∀ E s a w, Rel P cx.nt B M I0 G w0 E s a w → R s → Q .normal a w) (h : Rel P cx.nt B M I0 G w0 E s a w) {es : List Eff} (hp : Path cx ops.toList ops.toList s es) (hr : R (endS ops.toList es s)) :
    (Code.region id ops false).wp P Q a w := by
  refine wp_region ?_
  rw [List.range_eq_range', ← Array.length_toList]
  exact ops_run hP hR ops.toList 0 E s es a w (by simp) h hp hr
end
end Go.Rx

