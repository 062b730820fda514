/- The framework, part 11: calls. -/
import Derived.Test.YtkmiakgpkgmcbaaFw10
namespace Go.Rx
set_option linter.unusedSectionVars false
open Go.RowKit

section
variable {cx : Cx} {P : Program} [Laid P] {B : Nat} {M I0 : Nat → Prop} {G : Nat → Value} {w0 : World} {E : Env} {s : St} {a : Act} {w : World} {o : Oper} {K : Act → World → Prop} {Q : Exit → Act → World → Prop}

theorem freezes_mem {m : List (Nat × Chunk)} {c v e : Nat} {ks : List CK} {l : List SV} (hm : lkO m c = some (.row v e ks l)) : ∀ cs, c ∈ cs → lkO (freezes m cs) c = some (.froz v ks l)
  | d :: r, hc => by
    simp only [freezes]
    split
    · rename_i v2 e2 ks2 l2 hd
      rw [lkO_cons]
      by_cases e3 : d = c
      · subst e3; rw [hm] at hd; cases hd; exact if_pos rfl
      · rw [if_neg e3]
        exact freezes_mem hm r ((List.mem_cons.1 hc).resolve_left (fun e => e3 e.symm))
    · rename_i hn
      by_cases e3 : d = c
      · subst e3; exact (hn _ _ _ _ hm).elim
      · exact freezes_mem hm r ((List.mem_cons.1 hc).resolve_left (fun e => e3 e.symm))

theorem freezes_none {m : List (Nat × Chunk)} {c : Nat} (hm : ∀ v e ks l, lkO m c ≠ some (.row v e ks l)) : ∀ cs, lkO (freezes m cs) c = none
  | [] => rfl
  | d :: r => by
    simp only [freezes]
    split
    · rename_i v2 e2 ks2 l2 hd
      rw [lkO_cons]
      by_cases e3 : d = c
      · subst e3; exact (hm _ _ _ _ hd).elim
      · rw [if_neg e3]; exact freezes_none hm r
    · exact freezes_none hm r

/-- These slices are written no more. -/
def Frozen (m m' : List (Nat × Chunk)) (cs : List Nat) : Prop := ∀ c, c ∈ cs → (∀ v e ks l, lkO m c = some (.row v e ks l) → lkO m' c = some (.froz v ks l)) ∧ (∀ v ks l, lkO m c = some (.froz v ks l) → lkO m' c = some (.froz v ks l))

theorem frozen_of {m m' : List (Nat × Chunk)} {cs : List Nat} (h : ∀ k, lkO m' k = (match lkO (freezes m cs) k with | some ch => some ch | none => lkO m k)) : Frozen m m' cs := by
  intro c hc
  refine ⟨fun v e ks l hm => ?_, fun v ks l hm => ?_⟩
  · rw [h, freezes_mem hm cs hc]
  · rw [h, freezes_none (fun v' e' ks' l' h' => by rw [hm] at h'; cases h') cs]
    exact hm

theorem resolve_osl {m m' : List (Nat × Chunk)} {E : Env} {w : World} {c ver : Nat} {x : Value} (hch : ∀ c, ChR E (lkO m') w c (lkO m' c)) (hf : Frozen m m' [c]) (h : CV E (lkO m') w x (.osl c ver)) : CV E (lkO m') w x (resolve m (.osl c ver)) := by
  obtain ⟨h1, h2⟩ := hf c (List.mem_singleton.2 rfl)
  have key : ∀ v ks l, lkO m' c = some (.froz v ks l) → v = ver → CV E (lkO m') w x (.sl ks l) := by
    intro v ks l hc hv
    obtain ⟨v', e1, e2⟩ := h.inv_osl
    rw [hc] at e1
    simp only [verOf, Option.some.injEq] at e1
    have hcc := hch c
    rw [hc] at hcc
    rw [e2 (by omega)]
    exact .conc _ _ hcc
  simp only [resolve]
  split
  · rename_i v e ks l hm
    cases hb : Nat.beq v ver with
    | true => exact key v ks l (h1 v e ks l hm) (Nat.eq_of_beq_eq_true hb)
    | false => exact h
  · rename_i v ks l hm
    cases hb : Nat.beq v ver with
    | true => exact key v ks l (h2 v ks l hm) (Nat.eq_of_beq_eq_true hb)
    | false => exact h
  · exact h

mutual
theorem resolve_cv {m m' : List (Nat × Chunk)} {E : Env} {w : World} (hch : ∀ c, ChR E (lkO m') w c (lkO m' c)) : ∀ (v : SV) (x : Value), Frozen m m' (names v) → CV E (lkO m') w x v → CV E (lkO m') w x (resolve m v)
  | .osl c ver, x, hf, h => resolve_osl hch hf h
  | .agg cs, x, hf, h => by
    obtain ⟨xs, rfl, h1, h2⟩ := h.inv_agg
    exact .agg xs _ (by rw [resolveL_length]; exact h1) (fun i => resolveL_cv hch cs hf i _ (h2 i))
  | .tup cs, x, hf, h => by
    obtain ⟨xs, rfl, h1, h2⟩ := h.inv_tup
    exact .tup xs _ (by rw [resolveL_length]; exact h1) (fun i => resolveL_cv hch cs hf i _ (h2 i))
  | .fn f cs, x, hf, h => by
    obtain ⟨xs, rfl, h1, h2⟩ := h.inv_fn
    exact .fn f xs _ (by rw [resolveL_length]; exact h1) (fun i => resolveL_cv hch cs hf i _ (h2 i))
  | .any, _, _, h => h
  | .und, _, _, h => h
  | .int _ _, _, _, h => h
  | .bool _, _, _, h => h
  | .tt, _, _, h => h
  | .ff, _, _, h => h
  | .str _, _, _, h => h
  | .flt _, _, _, h => h
  | .cpx _ _, _, _, h => h
  | .ptr _ _, _, _, h => h
  | .ptx _ _, _, _, h => h
  | .rptr _ _ _ _ _, _, _, h => h
  | .sl _ _, _, _, h => h
  | .ep _ _ _ _, _, _, h => h
  | .oep _ _ _ _ _, _, _, h => h
  | .csl _ _ _, _, _, h => h
  | .nb _, _, _, h => h
  | .fsl _ _, _, _, h => h
  | .lp _ _, _, _, h => h
  | .mpp _, _, _, h => h
  | .itp _, _, _, h => h
  | .otl _ _ _ _, _, _, h => h
  | .nilsl, _, _, h => h
  | .nilp, _, _, h => h
theorem resolveL_cv {m m' : List (Nat × Chunk)} {E : Env} {w : World} (hch : ∀ c, ChR E (lkO m') w c (lkO m' c)) : ∀ (cs : List SV), Frozen m m' (namesL cs) → ∀ (i : Nat) (x : Value), CV E (lkO m') w x (cs.getD i .any) → CV E (lkO m') w x ((resolveL m cs).getD i .any)
  | [], _, i, x, h => by simpa [resolveL] using h
  | v :: r, hf, 0, x, h => by
    simpa [resolveL] using resolve_cv hch v x (fun c hc => hf c (by simp only [namesL, List.mem_append]; exact .inl hc)) (by simpa using h)
  | v :: r, hf, i + 1, x, h => by
    simpa [resolveL] using resolveL_cv hch r (fun c hc => hf c (by simp only [namesL, List.mem_append]; exact .inr hc)) i x (by simpa using h)
theorem resolveL_length {m : List (Nat × Chunk)} : ∀ (cs : List SV), (resolveL m cs).length = cs.length
  | [] => rfl
  | v :: r => by simp [resolveL, resolveL_length r]
end

/-- Behind a call. -/
theorem Rel.called (h : Rel P cx.nt B M I0 G w0 E s a w) {w' : World} {I' : Nat → Prop} (hfr : Fr w.heap.size (fun _ => False) w w') (hI : ∀ b, E.I b → I' b) (hI' : ∀ b, I' b → b < w'.heap.size ∧ (E.I b ∨ w.heap.size ≤ b))
    {x : Value} {v : SV} (hx : Conc I' w' x v) {d : Option Nat} (hd : ∀ k, d = some k → k < cx.nt) : Rel P cx.nt B M I0 G w0 { E with I := I' } (upd s d v []) (a.put d x) w' := by
  have hsame : ∀ b, b < w.heap.size → w'.heap[b]? = w.heap[b]? := fun b hb => hfr.block b hb (fun h => h)
  have hm : ∀ y u, CV E (lkO s.mem) w y u → CV { E with I := I' } (lkO s.mem) w' y u := fun y u hy =>
    CV.mono (E := E) (m := lkO s.mem) (w := w) hI (fun b hb => hsame b (h.inew b hb).1) (fun c t cs b h1 h2 => ⟨⟨t, cs, h1⟩, h2⟩) (hq_of fun _ _ _ h => ⟨rfl, h⟩) (fun c v h => ⟨v, h, Nat.le_refl _, fun _ => ⟨rfl, fun _ h => h⟩⟩) hy
  refine h.next hd ⟨hfr.os, hfr.tape, hfr.output, hfr.size, fun k hk hM => hsame k (Nat.lt_of_lt_of_le hk h.base)⟩ hI (fun b hb => ⟨(hI' b hb).1, ?_⟩) (fun c b hb => ?_) h.inj hm (.conc _ _ hx) (fun c => ?_)
  · rcases (hI' b hb).2 with h1 | h1
    · exact (h.inew b h1).2
    · exact .inr (.inl (Nat.le_trans h.base h1))
  · obtain ⟨q1, q2, q3⟩ := h.loc c b hb
    refine ⟨Nat.lt_of_lt_of_le q1 hfr.size, fun hI => ?_, q3⟩
    rcases (hI' b hI).2 with h1 | h1
    · exact q2 h1
    · omega
  · exact ChR.mono (E := E) (m := lkO s.mem) (w := w) hI (fun b hb => hsame b (h.inew b hb).1) hm rfl rfl (fun b hb => hsame b (h.loc c b hb).1) (h.ch c)

theorem upd_congr {s s' : St} {d : Option Nat} {v : SV} {ch : List (Nat × Chunk)} (ht : s'.tm = s.tm) (hm : ∀ k, lkO s'.mem k = (match lkO ch k with | some c => some c | none => lkO s.mem k)) :
    (∀ t, lk .any (upd s d v ch).tm t = lk .any (upd s' d v []).tm t) ∧ (∀ c, lkO (upd s d v ch).mem c = lkO (upd s' d v []).mem c) := by
  refine ⟨fun t => by simp only [upd, ht], fun c => ?_⟩
  simp only [upd, List.nil_append]
  rw [lkO_append, hm]
  cases lkO ch c <;> rfl

theorem argsEval (c : List Operand) (g : Operand → SV) (e : Operand → Value) {m : Nat → Option Chunk} (h : ∀ x, CV E m w (e x) (g x)) (i : Nat) : CV E m w ((c.map e).getD i undef) ((c.map g).getD i .any) := by
  induction c generalizing i with
  | nil => simpa using CV.conc _ _ (.any _)
  | cons x r ih =>
    cases i with
    | zero => simpa using h x
    | succ i => simpa using ih i

theorem append_cv {m : Nat → Option Chunk} {xs ys : List Value} {us vs : List SV} (hl : xs.length = us.length) (h1 : ∀ i, CV E m w (xs.getD i undef) (us.getD i .any)) (h2 : ∀ i, CV E m w (ys.getD i undef) (vs.getD i .any)) (i : Nat) :
    CV E m w ((xs ++ ys).getD i undef) ((us ++ vs).getD i .any) := by
  by_cases hi : i < xs.length
  · have e1 : (xs ++ ys).getD i undef = xs.getD i undef := by simp only [List.getD_eq_getElem?_getD]; rw [List.getElem?_append_left hi]
    have e2 : (us ++ vs).getD i .any = us.getD i .any := by simp only [List.getD_eq_getElem?_getD]; rw [List.getElem?_append_left (by omega)]
    rw [e1, e2]; exact h1 i
  · have e1 : (xs ++ ys).getD i undef = ys.getD (i - us.length) undef := by simp only [List.getD_eq_getElem?_getD]; rw [List.getElem?_append_right (by omega), hl]
    have e2 : (us ++ vs).getD i .any = vs.getD (i - us.length) .any := by simp only [List.getD_eq_getElem?_getD]; rw [List.getElem?_append_right (by omega)]
    rw [e1, e2]; exact h2 _

mutual
theorem plainR_conc {I I' : Nat → Prop} {w w' : World} : ∀ (v : SV), plainR v = true → ∀ (x : Value), Conc I w x v → Conc I' w' x v
  | .any, _, x, _ => .any x
  | .int _ _, _, _, h => by cases h; exact .int _ _
  | .bool _, _, _, h => by cases h; exact .bool _
  | .tt, _, _, h => by cases h; exact .tt
  | .ff, _, _, h => by cases h; exact .ff
  | .str _, _, _, h => by cases h with | str b _ h => exact .str b _ h
  | .flt _, _, _, h => by cases h; exact .flt _
  | .cpx _ _, _, _, h => by cases h; exact .cpx _ _
  | .nilsl, _, _, h => by cases h; exact .nilsl
  | .nilp, _, _, h => by cases h; exact .nilp
  | .tup cs, hp, _, h => by
    cases h with
    | tup xs _ hs hx => exact .tup xs cs hs (fun i => plainRs_conc cs hp i _ (hx i))
  | .agg cs, hp, _, h => by
    cases h with
    | agg xs _ hs hx => exact .agg xs cs hs (fun i => plainRs_conc cs hp i _ (hx i))
theorem plainRs_conc {I I' : Nat → Prop} {w w' : World} : ∀ (cs : List SV), plainRs cs = true → ∀ (i : Nat) (x : Value), Conc I w x (cs.getD i .any) → Conc I' w' x (cs.getD i .any)
  | [], _, i, x, _ => by simpa using Conc.any x
  | v :: r, hp, 0, x, h => by
    simp only [plainRs, Bool.and_eq_true] at hp
    simpa using plainR_conc v hp.1 x (by simpa using h)
  | v :: r, hp, i + 1, x, h => by
    simp only [plainRs, Bool.and_eq_true] at hp
    simpa using plainRs_conc r hp.2 i x (by simpa using h)
end

theorem lendL_length {m : List (Nat × Chunk)} : ∀ (vs : List SV), (lendL m vs).length = vs.length
  | [] => rfl
  | v :: r => by simp [lendL, lendL_length r]
theorem lendCs_length {m : List (Nat × Chunk)} : ∀ (vs : List SV), (lendCs m vs).length = vs.length
  | [] => rfl
  | v :: r => by simp [lendCs, lendCs_length r]
theorem lendC_ok {s' : St} {m : List (Nat × Chunk)} (h : Rel P cx.nt B M I0 G w0 E s' a w) (hmp : ∀ c t k e l ck, lkO m c = some (.mp t k e l ck) → lkO s'.mem c = some (.mp t k e l ck)) (v : SV) (x : Value) (hf : Frozen m s'.mem (namC v)) (hc : closed (lendC m v) = true) (hx : CV E (lkO s'.mem) w x v) :
    Conc E.I w x (lendC m v) ∨ MpC E.I w x (lendC m v) := by
  have gen : lendC m v = resolve m v → namC v = names v → Conc E.I w x (lendC m v) ∨ MpC E.I w x (lendC m v) := fun e1 e2 => by
    rw [e1] at hc ⊢
    rw [e2] at hf
    exact .inl (closed_conc _ _ hc (resolve_cv h.ch v x hf hx))
  cases v with
  | mpp d =>
    simp only [lendC] at hc ⊢
    cases hm : lkO m d with
    | none => simp only [hm, closed] at hc; cases hc
    | some ch =>
      cases ch with
      | mp ty kk vk l ck =>
        dsimp only
        obtain ⟨b, rfl, _, e2⟩ := hx.inv_mpp
        have hch := h.ch d
        rw [hmp d _ _ _ _ _ hm] at hch
        obtain ⟨b', p1, p2⟩ := hch
        rw [e2] at p1
        cases p1
        obtain ⟨k1, k2, _⟩ := h.loc d b e2
        exact .inr ⟨ty, kk, vk, l, b, ck, rfl, rfl, p2, k1, k2⟩
      | box => simp only [hm, closed] at hc; cases hc
      | row => simp only [hm, closed] at hc; cases hc
      | froz => simp only [hm, closed] at hc; cases hc
      | gh => simp only [hm, closed] at hc; cases hc
      | it => simp only [hm, closed] at hc; cases hc
  | _ => exact gen rfl rfl
theorem lendCs_ok {s' : St} {m : List (Nat × Chunk)} (h : Rel P cx.nt B M I0 G w0 E s' a w) (hmp : ∀ c t k e l ck, lkO m c = some (.mp t k e l ck) → lkO s'.mem c = some (.mp t k e l ck)) : ∀ (vs : List SV), Frozen m s'.mem (namCs vs) → closedL (lendCs m vs) = true →
    ∀ (i : Nat) (x : Value), CV E (lkO s'.mem) w x (vs.getD i .any) → Conc E.I w x ((lendCs m vs).getD i .any) ∨ MpC E.I w x ((lendCs m vs).getD i .any)
  | [], _, _, i, x, _ => .inl (by simpa [lendCs] using Conc.any x)
  | v :: r, hf, hc, 0, x, hx => by
    simp only [lendCs, closedL, Bool.and_eq_true] at hc
    simpa [lendCs] using lendC_ok h hmp v x (fun c hc => hf c (by simp only [namCs, List.mem_append]; exact .inl hc)) hc.1 (by simpa using hx)
  | v :: r, hf, hc, i + 1, x, hx => by
    simp only [lendCs, closedL, Bool.and_eq_true] at hc
    simpa [lendCs] using lendCs_ok h hmp r (fun c hc => hf c (by simp only [namCs, List.mem_append]; exact .inr hc)) hc.2 i x (by simpa using hx)
theorem lend_ok {s' : St} {m : List (Nat × Chunk)} (h : Rel P cx.nt B M I0 G w0 E s' a w) (hbox : ∀ c t cs, lkO m c = some (.box t cs) → lkO s'.mem c = some (.box t cs)) (hmp : ∀ c t k e l ck, lkO m c = some (.mp t k e l ck) → lkO s'.mem c = some (.mp t k e l ck)) (v : SV) (x : Value) (hf : Frozen m s'.mem (lnames m v)) (hc : closedA (lend m v) = true) (hx : CV E (lkO s'.mem) w x v) : ArgOK E.I w x (lend m v) := by
  have plain : lend m v = resolve m v → lnames m v = names v → closed (resolve m v) = true → ArgOK E.I w x (lend m v) := fun e1 e2 e3 => by
    rw [e1]
    rw [e2] at hf
    exact .inl (closed_conc _ _ e3 (resolve_cv h.ch v x hf hx))
  have gen : (∀ t cs, resolve m v ≠ .lp t cs) → lend m v = resolve m v → lnames m v = names v → ArgOK E.I w x (lend m v) := fun e0 e1 e2 => plain e1 e2 (by
    rw [e1] at hc
    generalize resolve m v = u at hc e0
    cases u <;> first | exact hc | exact absurd rfl (e0 _ _))
  cases v with
  | ptr c off =>
    cases off with
    | succ n => exact gen (by simp [resolve]) rfl rfl
    | zero =>
      cases hm : lkO m c with
      | none => simp only [lend, hm, closedA, closed] at hc; cases hc
      | some ch =>
        cases ch with
        | box t cs =>
          simp only [lend, lnames, hm] at hc hf ⊢
          have hm' := hbox c t cs hm
          obtain ⟨b, t', cs', e1, e2, e3⟩ := hx.inv_ptr
          have hch := h.ch c
          rw [hm'] at hch
          obtain ⟨b', ys, p1, p2, p3, p4⟩ := hch
          rw [e3] at p1
          cases p1
          obtain ⟨k1, k2, _⟩ := h.loc c b e3
          exact .inr ⟨t, _, b, ys, rfl, e1, p2, by rw [lendCs_length]; exact p3, fun i => lendCs_ok h hmp cs hf hc i _ (p4 i), k1, k2⟩
        | row => simp only [lend, hm, closedA, closed] at hc; cases hc
        | froz => simp only [lend, hm, closedA, closed] at hc; cases hc
        | gh => simp only [lend, hm, closedA, closed] at hc; cases hc
        | mp => simp only [lend, hm, closedA, closed] at hc; cases hc
        | it => simp only [lend, hm, closedA, closed] at hc; cases hc
  | lp t cs => cases hx with | conc _ _ h => cases h
  | osl c ver =>
    refine gen (fun t cs he => ?_) rfl rfl
    simp only [resolve] at he
    cases hm : lkO m c with
    | none => simp only [hm] at he; cases he
    | some ch =>
      cases ch <;> simp only [hm] at he <;> first | cases he | (split at he <;> cases he)
  | agg cs => exact gen (by simp [resolve]) rfl rfl
  | tup cs => exact gen (by simp [resolve]) rfl rfl
  | fn f cs => exact gen (by simp [resolve]) rfl rfl
  | _ => exact gen (by simp [resolve]) rfl rfl
theorem lendL_ok {s' : St} {m : List (Nat × Chunk)} (h : Rel P cx.nt B M I0 G w0 E s' a w) (hbox : ∀ c t cs, lkO m c = some (.box t cs) → lkO s'.mem c = some (.box t cs)) (hmp : ∀ c t k e l ck, lkO m c = some (.mp t k e l ck) → lkO s'.mem c = some (.mp t k e l ck)) : ∀ (vs : List SV), Frozen m s'.mem (lnamesL m vs) → closedAL (lendL m vs) = true → ∀ (i : Nat) (x : Value), CV E (lkO s'.mem) w x (vs.getD i .any) → ArgOK E.I w x ((lendL m vs).getD i .any)
  | [], _, _, i, x, _ => .inl (by simpa [lendL] using Conc.any x)
  | v :: r, hf, hc, 0, x, hx => by
    simp only [lendL, closedAL, Bool.and_eq_true] at hc
    simpa [lendL] using lend_ok h hbox hmp v x (fun c hc => hf c (by simp only [lnamesL, List.mem_append]; exact .inl hc)) hc.1 (by simpa using hx)
  | v :: r, hf, hc, i + 1, x, hx => by
    simp only [lendL, closedAL, Bool.and_eq_true] at hc
    simpa [lendL] using lendL_ok h hbox hmp r (fun c hc => hf c (by simp only [lnamesL, List.mem_append]; exact .inr hc)) hc.2 i x (by simpa using hx)

theorem ownI_get : ∀ {rs : List SV} {i j e : Nat} {ks : List CK} {l : List SV}, ownI rs i = some (j, e, ks, l) → i ≤ j ∧ j - i < rs.length ∧ rs.getD (j - i) .any = .own e ks l
  | [], _, _, _, _, _, h => by cases h
  | v :: r, i, j, e, ks, l, h => by
    have recu : ownI r (i + 1) = some (j, e, ks, l) → i ≤ j ∧ j - i < (v :: r).length ∧ (v :: r).getD (j - i) .any = .own e ks l := fun h => by
      obtain ⟨h1, h2, h3⟩ := ownI_get h
      have e1 : j - i = (j - (i + 1)) + 1 := by omega
      refine ⟨by omega, by simp; omega, ?_⟩
      rw [e1]; simpa using h3
    cases v <;> first | exact recu h | skip
    simp only [ownI, Option.some.injEq, Prod.mk.injEq] at h
    obtain ⟨rfl, rfl, rfl, rfl⟩ := h
    simp
/-- With the slice put in its place. -/
theorem ownPut_cv {E : Env} {m : Nat → Option Chunk} {w : World} {x : Value} {r u : SV} {j : Option Nat} {e : Nat} {ks : List CK} {l : List SV} (hr : ownAt r = some (j, e, ks, l)) (h : CV E m w x (ownPut j .any r)) (hu : CV E m w (ownSel j x) u) : CV E m w x (ownPut j u r) := by
  cases j with
  | none => exact hu
  | some j =>
    cases r <;> simp only [ownAt, reduceCtorEq, Option.some.injEq, Prod.mk.injEq, false_and] at hr
    rename_i rs
    cases hi : ownI rs 0 with
    | none => simp only [hi] at hr; cases hr
    | some p =>
      obtain ⟨j', e', ks', l'⟩ := p
      simp only [hi, Option.some.injEq, Prod.mk.injEq] at hr
      obtain ⟨rfl, rfl, rfl, rfl⟩ := hr
      obtain ⟨_, h2, _⟩ := ownI_get hi
      simp only [ownPut] at h ⊢
      obtain ⟨xs, rfl, h3, h4⟩ := h.inv_tup
      refine .tup xs _ (by rw [h3]; simp) (fun i => ?_)
      have h5 := h4 i
      simp only [List.getD_eq_getElem?_getD, List.getElem?_set] at h5 ⊢
      by_cases hij : j' = i
      · subst hij
        rw [if_pos rfl, if_pos (by omega)]
        exact hu
      · rw [if_neg hij] at h5 ⊢; exact h5
theorem flatK_get : ∀ {ks : List CK}, flatK ks = true → ∀ j, j < ks.length → (∀ q, ks.getD j .other ≠ .sl q) ∧ ks.getD j .other ≠ .other
  | [], _, j, hj => by simp at hj
  | k :: r, h, 0, _ => by
    simp only [flatK, Bool.and_eq_true] at h
    cases k <;> simp at h ⊢
  | k :: r, h, j + 1, hj => by
    simp only [flatK, Bool.and_eq_true] at h
    simpa using flatK_get h.2 j (by simpa using hj)
theorem flat_conc {I I' : Nat → Prop} {w w' : World} {k : CK} {x : Value} {v : SV} (h1 : ∀ q, k ≠ .sl q) (h2 : k ≠ .other) (hk : kOk k v) (h : Conc I w x v) : Conc I' w' x v := by
  cases k with
  | int k => obtain ⟨n, rfl⟩ := hk; exact plainR_conc _ rfl _ h
  | bool => rcases hk with rfl | rfl | ⟨b, rfl⟩ <;> exact plainR_conc _ rfl _ h
  | str => obtain ⟨n, rfl⟩ := hk; exact plainR_conc _ rfl _ h
  | flt => obtain ⟨n, rfl⟩ := hk; exact plainR_conc _ rfl _ h
  | cpx => obtain ⟨n, m, rfl⟩ := hk; exact plainR_conc _ rfl _ h
  | sl q => exact absurd rfl (h1 q)
  | other => exact absurd rfl h2
theorem shOk_at {ks : List CK} {l : List SV} (hsh : ∀ v, v ∈ l → shOk ks v) {i j : Nat} (hi : i < l.length) (hj : j < ks.length) : kOk (ks.getD j .other) (elCell l i j) := by
  have hmem : l.getD i .any ∈ l := by rw [List.getD_eq_getElem?_getD, List.getElem?_eq_getElem hi]; exact List.getElem_mem hi
  exact (hsh _ hmem).2 j hj
theorem OwnR.flat {I I' : Nat → Prop} {n : Nat} {w : World} {x : Value} {e : Nat} {ks : List CK} {l : List SV} (hf : flatK ks = true) (hI : ∀ b, I' b → b < n) (h : OwnR I n w x e ks l) : OwnR I' n w x e ks l := by
  obtain ⟨h1, ⟨h2, xs, h3, h4⟩ | h2⟩ := h
  rotate_left
  · exact ⟨h1, .inr h2⟩
  refine ⟨h1, .inl ⟨fun b hb => ⟨(h2 b hb).1, (h2 b hb).2.1, fun hi => ?_⟩, xs, h3, fun i j hi hj => ?_⟩⟩
  · have := hI b hi
    have := (h2 b hb).1
    omega
  · obtain ⟨f1, f2⟩ := flatK_get hf j hj
    exact flat_conc f1 f2 (shOk_at h1 hi hj) (h4 i j hi hj)
/-- A slice is taken over. -/
theorem Rel.adopt (h : Rel P cx.nt B M I0 G w0 E s a w) {key e : Nat} {ks : List CK} {l : List SV} {x : Value} {n : Nat} (hfree : lkO s.mem key = none) (hn : B ≤ n) (hloc : ∀ k b, E.loc k = some b → b < n) (ho : OwnR E.I n w x e ks l) :
    Rel P cx.nt B M I0 G w0 (E.withRow key x) ⟨s.tm, (key, .row 0 e ks l) :: s.mem⟩ a w ∧ CV (E.withRow key x) (lkO ((key, Chunk.row 0 e ks l) :: s.mem)) w x (.osl key 0) ∧ ∀ y u, CV E (lkO s.mem) w y u → CV (E.withRow key x) (lkO ((key, Chunk.row 0 e ks l) :: s.mem)) w y u := by
  obtain ⟨o1, o2'⟩ := ho
  have o2 : ∀ b, oB x = some b → n ≤ b ∧ b < w.heap.size ∧ ¬ E.I b := fun b hb => by
    rcases o2' with ⟨o2, _⟩ | ⟨_, ad, rfl⟩
    · exact o2 b (oB_some hb)
    · cases hb
  have hlk : ∀ k, lkO ((key, Chunk.row 0 e ks l) :: s.mem) k = if key = k then some (.row 0 e ks l) else lkO s.mem k := fun k => lkO_cons ..
  have hm : ∀ y u, CV E (lkO s.mem) w y u → CV (E.withRow key x) (lkO ((key, Chunk.row 0 e ks l) :: s.mem)) w y u := fun y u hy => by
    refine CV.mono (E := E) (m := lkO s.mem) (w := w) (fun _ h => h) (fun _ _ => rfl) (fun k t cs b h1 h2 => ?_) (hq_of fun k b h1 h2 => ?_) (fun k v h1 => ?_) hy
    · have hk : ¬ key = k := fun e => by subst e; rw [hfree] at h1; cases h1
      exact ⟨⟨t, cs, by rw [hlk, if_neg hk]; exact h1⟩, by simp only [Env.withRow]; rw [if_neg (fun e => hk e.symm)]; exact h2⟩
    · have hk : ¬ key = k := fun e => by subst e; exact isPt_none h1 hfree
      exact ⟨by rw [hlk, if_neg hk], by simp only [Env.withRow]; rw [if_neg (fun e => hk e.symm)]; exact h2⟩
    · have hk : ¬ key = k := fun e => by subst e; rw [hfree] at h1; cases h1
      exact ⟨v, by rw [hlk, if_neg hk]; exact h1, Nat.le_refl _, fun _ => ⟨by simp only [Env.withRow]; rw [if_neg (fun e => hk e.symm)], fun b hb => by simp only [Env.withRow] at hb; rw [if_neg (fun e => hk e.symm)] at hb; exact hb⟩⟩
  refine ⟨⟨h.defers, h.tsize, h.fr, h.base, h.i0, h.inew, ?_, ?_, fun t => hm _ _ (h.tm t), ?_, h.ld, h.gv⟩, ?_, hm⟩
  · intro k b hb
    simp only [Env.withRow] at hb
    by_cases hk : k = key
    · rw [if_pos hk] at hb
      obtain ⟨p1, p2, p3⟩ := o2 b hb
      exact ⟨p2, p3, .inl (by omega)⟩
    · rw [if_neg hk] at hb
      obtain ⟨p1, p2, p3⟩ := h.loc k b hb
      refine ⟨p1, p2, ?_⟩
      show _ ∨ _ ∨ (_ ∧ verOf (lkO ((key, Chunk.row 0 e ks l) :: s.mem) k) = none)
      rw [hlk, if_neg (fun e => hk e.symm)]; exact p3
  · intro k k' b hb hb'
    simp only [Env.withRow] at hb hb'
    by_cases hk : k = key <;> by_cases hk' : k' = key
    · rw [hk, hk']
    · rw [if_pos hk] at hb
      rw [if_neg hk'] at hb'
      have := (o2 b hb).1
      have := hloc k' b hb'
      omega
    · rw [if_neg hk] at hb
      rw [if_pos hk'] at hb'
      have := (o2 b hb').1
      have := hloc k b hb
      omega
    · rw [if_neg hk] at hb
      rw [if_neg hk'] at hb'
      exact h.inj k k' b hb hb'
  · intro k
    show ChR (E.withRow key x) (lkO ((key, Chunk.row 0 e ks l) :: s.mem)) w k (lkO ((key, Chunk.row 0 e ks l) :: s.mem) k)
    rw [hlk]
    by_cases hk : key = k
    · subst hk
      rw [if_pos rfl]
      rcases o2' with ⟨_, xs, o3, o4⟩ | ⟨q, ad, rfl⟩
      · exact rowR_own o1 o3 o4
      · exact rowR_zero q
    · rw [if_neg hk]
      have hk' : ¬ k = key := fun e => hk e.symm
      exact ChR.mono (E := E) (m := lkO s.mem) (w := w) (fun _ h => h) (fun _ _ => rfl) hm (by simp only [Env.withRow]; rw [if_neg hk']) (by simp only [Env.withRow]; rw [if_neg hk']) (fun _ _ => rfl) (h.ch k)
  · exact .osl _ key 0 0 (by rw [hlk, if_pos rfl]; rfl) (Nat.le_refl _) (fun _ => by simp [Env.withRow])
theorem Rel.setT {tm : List (Nat × SV)} {mem : List (Nat × Chunk)} {d : Nat} {u v : SV} (h : Rel P cx.nt B M I0 G w0 E ⟨(d, u) :: tm, mem⟩ a w) (hv : CV E (lkO mem) w (a.tmps.getD d undef) v) : Rel P cx.nt B M I0 G w0 E ⟨(d, v) :: tm, mem⟩ a w := by
  refine ⟨h.defers, h.tsize, h.fr, h.base, h.i0, h.inew, h.loc, h.inj, fun t => ?_, h.ch, h.ld, h.gv⟩
  have ht := h.tm t
  show CV E (lkO mem) w _ (lk .any ((d, v) :: tm) t)
  replace ht : CV E (lkO mem) w (a.tmps.getD t undef) (lk .any ((d, u) :: tm) t) := ht
  rw [lk_cons] at ht ⊢
  by_cases e : d = t
  · subst e; rw [if_pos rfl]; exact hv
  · rw [if_neg e] at ht ⊢; exact ht

theorem sound_call (hP : CxOk P cx) {c : Call} {f : Operand} (ho : o.op = .call c) (hc : c.callee = .value f) : Sound cx P o := by
  intro B M I0 G w0 E s a w K Q h hd hob hK
  have e : opx cx s.mem (ev s.tm) o = opE cx s.mem (ev s.tm) o.dst (.call c) := by simp [opx, ho]
  rw [e] at hob hK
  simp only [opE, hc] at hob hK
  have hf := h.eval f
  cases hv : ev s.tm f <;> simp only [hv] at hob hK <;> try exact hob.elim
  rename_i fn caps
  rw [hv] at hf
  obtain ⟨xs, e1, e2, e3⟩ := hf.inv_fn
  unfold callOf at hob hK
  cases hcon : lkO cx.fn fn with
  | none => simp only [hcon] at hob; exact hob.elim
  | some con =>
    simp only [hcon] at hob hK
    generalize hargs : (c.args.toList.map (ev s.tm)) ++ caps = args at hob hK
    cases hcl : closedAL (lendL s.mem args) with
    | false => simp only [hcl] at hob; exact hob.elim
    | true =>
      simp only [hcl] at hob hK
      obtain ⟨fnd, hf1, hf2, hf3⟩ := hP.fb fn con hcon
      have hob' : obH (con.pre (lendL s.mem args)) := by
        cases hfo : frOf (con.res (lendL s.mem args)) with
        | some r0 => simpa only [hfo] using hob
        | none =>
        simp only [hfo] at hob
        cases how : ownAt (con.res (lendL s.mem args)) with
        | none => simp only [how] at hob; cases hpl : plainR (con.res (lendL s.mem args)) <;> simpa only [hpl] using hob
        | some p =>
          obtain ⟨j, e, ks, l⟩ := p
          simp only [how] at hob
          cases hds : o.dst with
          | none => simp only [hds] at hob; exact hob.elim
          | some d =>
            simp only [hds] at hob
            cases hmk : lkO s.mem (ownKey cx d j) with
            | some _ => simp only [hmk] at hob; exact hob.elim
            | none =>
              simp only [hmk] at hob
              split at hob <;> exact hob
      obtain ⟨_, hok⟩ := hP.fn fn con hcon _ hcl hob'
      have hval : ∀ i, CV E (lkO s.mem) w (((c.args.toList.map a.eval) ++ xs.toList).getD i undef) (args.getD i .any) := by
        rw [← hargs]
        exact append_cv (by simp) (argsEval _ _ _ h.eval) (fun i => by simpa [List.getD_eq_getElem?_getD, Array.getD_eq_getD_getElem?] using e3 i)
      -- the slices of the function's own that go with the call
      obtain ⟨E', s', q1, q2, q3, q4, q5⟩ := h.freeze (lnamesL s.mem args) s.mem (fun _ _ => .inl rfl)
      have hfz := frozen_of q3
      have hval' : ∀ i, CV E' (lkO s'.mem) w (((c.args.toList.map a.eval) ++ xs.toList).getD i undef) (args.getD i .any) := by
        rw [← hargs]
        have hf' := q1.eval f
        rw [q2, hv] at hf'
        obtain ⟨xs', e1', e2', e3'⟩ := hf'.inv_fn
        rw [e1] at e1'
        cases e1'
        refine append_cv (by simp) (fun i => ?_) (fun i => by simpa [List.getD_eq_getElem?_getD, Array.getD_eq_getD_getElem?] using e3' i)
        have := argsEval (E := E') (w := w) (m := lkO s'.mem) c.args.toList (ev s'.tm) a.eval q1.eval i
        rw [q2] at this
        exact this
      have hcon' : ∀ i, ArgOK E'.I w (((c.args.toList.map a.eval) ++ xs.toList).getD i undef) ((lendL s.mem args).getD i .any) := fun i =>
        lendL_ok q1 (fun c t cs h1 => by rw [q3, freezes_none (fun v e ks l h => by rw [h1] at h; cases h) _]; exact h1) (fun c t k e l ck h1 => by rw [q3, freezes_none (fun v e ks l h => by rw [h1] at h; cases h) _]; exact h1) args hfz hcl i _ (hval' i)
      have hcall := hok E'.I w ((c.args.map a.eval) ++ xs) (h.ld w h.fr) (fun b hb => (q1.inew b hb).1) (by rw [lendL_length, ← hargs]; simp; omega) (fun i => by
        have := hcon' i
        have e4 : ((c.args.map a.eval) ++ xs).getD i undef = ((c.args.toList.map a.eval) ++ xs.toList).getD i undef := by
          rw [Array.getD_eq_getD_getElem?, List.getD_eq_getElem?_getD, ← Array.getElem?_toList, Array.toList_append, Array.toList_map]
        rw [e4]; exact this)
      have hrun : (execOp a.eval o).run P w = .ok (.enter fn ((c.args.map a.eval) ++ xs)) w := by
        simp only [execOp, ho, _root_.Go.resolve, hc, Sem.run_bind, e1, Deferred.ofValue, Sem.run_pure, Result.andThen_ok, invoke, callFunc, run_program, hf1, hf3, hf2, Bool.false_eq_true, if_false, Array.empty_append]
      unfold Oper.wp
      rw [hrun]
      refine hcall.mono ?_
      rintro ed w' ⟨x, I', rfl, hfr, hI1, hI2, hx⟩
      cases hfo : frOf (con.res (lendL s.mem args)) with
      | some r0 =>
        simp only [hfo] at hob hK
        have key : ∃ J : Nat → Prop, (∀ b, J b → w.heap.size ≤ b ∧ b < w'.heap.size) ∧ Conc J w' x r0 := by
          generalize con.res (lendL s.mem args) = r at hfo hx
          rcases hx with hx | ⟨j, e', ks', l', q1, q2, q3⟩ | ⟨r2, J, q1, q2, q3⟩
          · unfold frOf at hfo
            split at hfo
            · cases hx
            · cases hfo
          · unfold frOf at hfo
            split at hfo
            · rename_i e r1
              split at hfo
              · split at hfo
                · rename_i v vs hv
                  cases hfo
                  simp only [ownAt, Option.some.injEq, Prod.mk.injEq] at q1
                  obtain ⟨rfl, rfl, rfl, rfl⟩ := q1
                  have := (q3.1 r0 (List.mem_singleton.2 rfl)).1
                  rw [hv] at this
                  simp at this
                · cases hfo
              · cases hfo
            · cases hfo
          · rw [hfo] at q1
            cases q1
            exact ⟨J, q2, q3⟩
        obtain ⟨J, j1, j2⟩ := key
        exact hK { E with I := fun b => E.I b ∨ J b } _ _ (h.called hfr (fun _ h => .inl h) (fun b hb => by
          rcases hb with hb | hb
          · exact ⟨Nat.lt_of_lt_of_le (h.inew b hb).1 hfr.size, .inl hb⟩
          · exact ⟨(j1 b hb).2, .inr (j1 b hb).1⟩) (j2.mono (fun b hb => .inr hb) (fun _ _ => rfl)) (dOk_lt hd))
      | none =>
      simp only [hfo] at hob hK
      cases how : ownAt (con.res (lendL s.mem args)) with
      | some p =>
        obtain ⟨j, e, ks, l⟩ := p
        simp only [how] at hob hK
        cases hds : o.dst with
        | none => simp only [hds] at hob; exact hob.elim
        | some d =>
        simp only [hds] at hob hK
        cases hmk : lkO s.mem (ownKey cx d j) with
        | some _ => simp only [hmk] at hob; exact hob.elim
        | none =>
        simp only [hmk] at hob hK
        have hdl : d < a.tmps.size := by rw [h.tsize]; exact dOk_lt hd d hds
        rcases hx with hx | ⟨j', e', ks', l', r1, r2, r3⟩ | ⟨_, _, r1, _⟩
        rotate_right
        · rw [hfo] at r1; cases r1
        · exact absurd hx (by
            intro hx
            generalize con.res (lendL s.mem args) = r at how hx
            cases r <;> simp only [ownAt, reduceCtorEq, Option.some.injEq, Prod.mk.injEq] at how
            · rename_i rs
              cases hi : ownI rs 0 with
              | none => simp only [hi] at how; cases how
              | some p =>
                obtain ⟨j1, e1, ks1, l1⟩ := p
                obtain ⟨_, h2, h3⟩ := ownI_get hi
                cases hx with
                | tup xs _ hs hc =>
                  have := hc (j1 - 0)
                  rw [h3] at this
                  generalize xs.getD (j1 - 0) undef = y at this
                  cases this
            · cases hx)
        · rw [how] at r1
          simp only [Option.some.injEq, Prod.mk.injEq] at r1
          obtain ⟨rfl, rfl, rfl, rfl⟩ := r1
          cases hfp : (flatK ks && plainR (ownPut j .any (con.res (lendL s.mem args)))) with
          | true =>
            simp only [hfp] at hK
            simp only [Bool.and_eq_true] at hfp
            have h1 := h.called hfr (fun _ h => h) (fun b hb => ⟨Nat.lt_of_lt_of_le (h.inew b hb).1 hfr.size, .inl hb⟩) (plainR_conc _ hfp.2 _ r2) (d := some d) (fun k hk => dOk_lt hd k (by rw [hds]; exact hk))
            obtain ⟨g1, g2, g3⟩ := h1.adopt (key := ownKey cx d j) (n := w.heap.size) hmk h.base (fun k b hb => (h.loc k b hb).1) (r3.flat hfp.1 (fun b hb => (h.inew b hb).1))
            have ex : (a.put (some d) x).tmps.getD d undef = x := by rw [put_getD hdl, if_pos rfl]
            have h0 : CV E (lkO s.mem) w' x (ownPut j .any (con.res (lendL s.mem args))) := .conc _ _ (plainR_conc _ hfp.2 _ r2)
            have := g1.setT (v := ownPut j (.osl (ownKey cx d j) 0) (con.res (lendL s.mem args))) (by rw [ex]; exact ownPut_cv how (g3 _ _ h0) g2)
            exact hK _ _ _ this
          | false =>
            simp only [hfp] at hK
            have hmk' : lkO s'.mem (ownKey cx d j) = none := by
              rw [q3, freezes_none (fun v e ks l h => by rw [hmk] at h; cases h) _]; exact hmk
            have h1 := q1.called hfr hI1 hI2 r2 (d := some d) (fun k hk => dOk_lt hd k (by rw [hds]; exact hk))
            obtain ⟨g1, g2, g3⟩ := h1.adopt (key := ownKey cx d j) (n := w.heap.size) hmk' q1.base (fun k b hb => (q1.loc k b hb).1) r3
            have ex : (a.put (some d) x).tmps.getD d undef = x := by rw [put_getD hdl, if_pos rfl]
            have h0 : CV { E' with I := I' } (lkO s'.mem) w' x (ownPut j .any (con.res (lendL s.mem args))) := .conc _ _ r2
            have := g1.setT (v := ownPut j (.osl (ownKey cx d j) 0) (con.res (lendL s.mem args))) (by rw [ex]; exact ownPut_cv how (g3 _ _ h0) g2)
            refine hK _ _ _ (this.congr (fun t => ?_) (fun c => ?_))
            · simp only [upd, q2]
            · simp only [upd]
              rw [List.cons_append, lkO_cons, lkO_cons, lkO_append]
              split
              · rfl
              · show _ = lkO ([] ++ s'.mem) c
                rw [List.nil_append, q3]
                cases lkO (freezes s.mem (lnamesL s.mem args)) c <;> rfl
      | none =>
      simp only [how] at hob hK
      replace hx := hx.conc how hfo
      cases hpl : plainR (con.res (lendL s.mem args)) with
      | true =>
        simp only [hpl] at hK
        exact hK E _ _ (h.called hfr (fun _ h => h) (fun b hb => ⟨Nat.lt_of_lt_of_le (h.inew b hb).1 hfr.size, .inl hb⟩) (plainR_conc _ hpl _ hx) (dOk_lt hd))
      | false =>
      simp only [hpl] at hK
      obtain ⟨c1, c2⟩ := upd_congr (d := o.dst) (v := con.res (lendL s.mem args)) q2 q3
      exact hK { E' with I := I' } _ _ ((q1.called hfr hI1 hI2 hx (dOk_lt hd)).congr c1 c2)
end
end Go.Rx

