/- The framework, part 13: literals, slices of slices, conversions. -/
import Derived.Test.YtkmiakgpkgmcbaaFw12
namespace Go.Rx
set_option linter.unusedSectionVars false
open Go.RowKit

section
variable {cx : Cx} {P : Program} [Laid P] {B : Nat} {M I0 : Nat → Prop} {G : Nat → Value} {w0 : World} {E : Env} {s : St} {a : Act} {w : World} {o : Oper} {K : Act → World → Prop} {Q : Exit → Act → World → Prop}

/-- One part of a literal, laid. -/
def layAt (off : Nat) : List Value → Array Value → Nat → Array Value
  | [], cs, _ => cs
  | v :: r, cs, j => layAt off r (cs.setIfInBounds (off + j) v) (j + 1)

theorem layAt_eq (off : Nat) : ∀ (vs : List Value) (cs : Array Value) (j : Nat), (vs.zipIdx j).foldl (fun cs (p : Value × Nat) => cs.setIfInBounds (off + p.2) p.1) cs = layAt off vs cs j
  | [], _, _ => rfl
  | v :: r, cs, j => by simp only [List.zipIdx_cons, List.foldl_cons, layAt]; exact layAt_eq off r _ _
theorem layAt_size (off : Nat) : ∀ (vs : List Value) (cs : Array Value) (j : Nat), (layAt off vs cs j).size = cs.size
  | [], _, _ => rfl
  | v :: r, cs, j => by simp [layAt, layAt_size off r]
theorem layAt_getD (off : Nat) : ∀ (vs : List Value) (cs : Array Value) (j i : Nat), off + j + vs.length ≤ cs.size → (layAt off vs cs j).getD i undef = if off + j ≤ i ∧ i < off + j + vs.length then vs.getD (i - (off + j)) undef else cs.getD i undef
  | [], cs, j, i, _ => by simp only [layAt, List.length_nil]; rw [if_neg (by omega)]
  | v :: r, cs, j, i, h => by
    simp only [List.length_cons] at h
    rw [layAt, layAt_getD off r _ _ _ (by simp; omega)]
    by_cases h1 : i = off + j
    · subst h1
      rw [if_neg (by omega), if_pos (by simp)]
      simp only [Array.getD_eq_getD_getElem?, Array.getElem?_setIfInBounds]
      have : off + j < cs.size := by omega
      simp [this]
    · by_cases h2 : off + (j + 1) ≤ i ∧ i < off + (j + 1) + r.length
      · rw [if_pos h2, if_pos (by simp; omega)]
        have : i - (off + j) = (i - (off + (j + 1))) + 1 := by omega
        rw [this, List.getD_cons_succ]
      · rw [if_neg h2, if_neg (by simp; omega)]
        simp only [Array.getD_eq_getD_getElem?, Array.getElem?_setIfInBounds]
        rw [if_neg (by omega)]

theorem fill_cons (place : Nat → Option (Nat × Nat)) (cells : Array Value) (i : Nat) (v : Value) (rest : List (Nat × Value)) {off size : Nat} (hp : place i = some (off, size)) (h1 : v.cells.size = size) (h2 : off + size ≤ cells.size) :
    Instr.fill place cells ((i, v) :: rest) = Instr.fill place (layAt off v.cells.toList cells 0) rest := by
  have e : v.cells.zipIdx.foldl (fun (cs : Array Value) (x : Value × Nat) => cs.setIfInBounds (off + x.2) x.1) cells = layAt off v.cells.toList cells 0 := by
    rw [← layAt_eq, ← Array.foldl_toList]
    simp
  simp only [Instr.fill, hp]
  rw [if_neg (by simp [h1]; omega)]
  congr 1

/-- The parts of a literal. -/
theorem fillS_run (h : Rel P cx.nt B M I0 G w0 E s a w) (place place' : Nat → Option (Nat × Nat)) (hpl : ∀ i p, place i = some p → place' i = some p) : ∀ (ps : List (Nat × Operand)) (cs cs' : List SV) (xs : Array Value), fillS s.mem (ev s.tm) place ps cs = some cs' → xs.size = cs.length → (∀ i, CV E (lkO s.mem) w (xs.getD i undef) (cs.getD i .any)) →
    ∃ xs', Instr.fill place' xs (ps.map fun p => (p.1, a.eval p.2)) = some xs' ∧ xs'.size = cs'.length ∧ ∀ i, CV E (lkO s.mem) w (xs'.getD i undef) (cs'.getD i .any)
  | [], cs, cs', xs, hf, hs, hx => by
    simp only [fillS, Option.some.injEq] at hf
    subst hf
    exact ⟨xs, rfl, hs, hx⟩
  | (i, y) :: r, cs, cs', xs, hf, hs, hx => by
    simp only [fillS] at hf
    cases hp : place i with
    | none => simp only [hp] at hf; cases hf
    | some p =>
      obtain ⟨off, sz⟩ := p
      simp only [hp] at hf
      cases q1 : Nat.beq (ev s.tm y).cells.length sz <;> cases q2 : cellsB s.mem (ev s.tm y) <;> cases q3 : Nat.ble (off + sz) cs.length <;> simp only [q1, q2, q3, reduceCtorEq] at hf
      have q1 := Nat.eq_of_beq_eq_true q1
      have q3 := Nat.le_of_ble_eq_true q3
      obtain ⟨y1, y2⟩ := cells_cv h.ch (h.eval y) q2
      have hsz : (a.eval y).cells.size = sz := by omega
      rw [List.map_cons, fill_cons place' xs i (a.eval y) _ (hpl _ _ hp) hsz (by omega)]
      refine fillS_run h place place' hpl r _ cs' _ hf (by rw [layAt_size, setL_length]; exact hs) (fun k => ?_)
      rw [layAt_getD _ _ _ _ _ (by simp; omega), setL_getD _ _ _ _ (by omega)]
      by_cases hk : off + 0 ≤ k ∧ k < off + 0 + (a.eval y).cells.toList.length
      · rw [if_pos hk, if_pos (by simp at hk; omega)]
        have := y2 (k - off)
        simpa [Array.getD_eq_getD_getElem?, List.getD_eq_getElem?_getD] using this
      · rw [if_neg hk, if_neg (by simp at hk; omega)]
        exact hx k

theorem run_places {fl : List (Nat × Nat)} {fs : Array Field} (h : ∀ (i : Nat) (f : Field), fs[i]? = some f → fl[i]? = some (f.offset, f.type) ∧ ∃ inf, P.info? f.type = some inf ∧ inf.size ≠ 0) :
    (fs.mapM fun f => (do pure (f.offset, ← sizeOf f.type) : Sem (Nat × Nat))).run P w = .ok (fs.map fun f => (f.offset, P.cellsOf f.type)) w := by
  rw [Array.mapM_eq_mapM_toList]
  have key : ∀ (l : List Field), (∀ f, f ∈ l → ∃ inf, P.info? f.type = some inf) → (l.mapM fun f => (do pure (f.offset, ← sizeOf f.type) : Sem (Nat × Nat))).run P w = .ok (l.map fun f => (f.offset, P.cellsOf f.type)) w := by
    intro l
    induction l with
    | nil => intro _; rfl
    | cons f r ih =>
      intro hl
      obtain ⟨inf, hi⟩ := hl f (List.mem_cons_self ..)
      have ih' := ih (fun g hg => hl g (List.mem_cons_of_mem _ hg))
      have hc : P.cellsOf f.type = inf.size := by simp [Program.cellsOf, hi]
      simp only [List.mapM_cons, Sem.run_bind, run_size hi, Result.andThen_ok, Sem.run_pure, ih', List.map_cons, hc]
  rw [Sem.run_map, key fs.toList (fun f hf' => by
    obtain ⟨i, hi⟩ := List.getElem?_of_mem hf'
    obtain ⟨_, inf, h1, _⟩ := h i f (by simpa using hi)
    exact ⟨inf, h1⟩)]
  rw [Result.andThen_ok]
  congr 1
  apply Array.ext'
  simp

theorem sound_build (hP : CxOk P cx) {t : Nat} {ps : Array (Nat × Operand)} (ho : o.op = .build t ps) : Sound cx P o := by
  intro B M I0 G w0 E s a w K Q h hd hob hK
  have e : opx cx s.mem (ev s.tm) o = opE cx s.mem (ev s.tm) o.dst (.build t ps) := by simp [opx, ho]
  rw [e] at hob hK
  simp only [opE] at hob hK
  cases ht : tyOf cx t with
  | none => rw [ht] at hob; exact hob.elim
  | some L =>
    have hL := tyRun hP ht
    obtain ⟨d, h1, h2⟩ := hL.desc
    obtain ⟨inf, z, i1, i2, i3, i4, i5, i6, i7⟩ := hL.info
    simp only [ht] at hob hK
    have hparts : (ps.map fun p => (p.1, a.eval p.2)).toList = ps.toList.map fun p => (p.1, a.eval p.2) := by simp
    cases hk : L.k <;> simp only [hk] at hob hK h2 <;> try exact hob.elim
    · rename_i fl
      obtain ⟨fs, rfl, h3, h4⟩ := TkOk_struct h2
      split at hob
      · rename_i cs hcs
        simp only [hcs] at hK
        have hpl : ∀ (i : Nat) (p : Nat × Nat), (match fl[i]? with | some (o, ft) => (match tyOf cx ft with | some Lf => some (o, Lf.ks.length) | none => none) | none => none) = some p → (fs.map fun f => (f.offset, P.cellsOf f.type))[i]? = some p := by
          intro i p hp
          cases hq : fl[i]? with
          | none => simp only [hq] at hp; cases hp
          | some q =>
            obtain ⟨o', ft⟩ := q
            simp only [hq] at hp
            cases hft : tyOf cx ft with
            | none => simp only [hft] at hp; cases hp
            | some Lf =>
              simp only [hft, Option.some.injEq] at hp
              subst hp
              have hlt : i < fs.size := by have := (List.getElem?_eq_some_iff.1 hq).1; omega
              have hfs : fs[i]? = some fs[i] := Array.getElem?_eq_getElem hlt
              obtain ⟨q1, inf', q2, q3⟩ := h4 i _ hfs
              rw [hq] at q1
              simp only [Option.some.injEq, Prod.mk.injEq] at q1
              obtain ⟨inf2, _, j1, j2, _⟩ := (tyRun hP hft).info
              have j1' : P.info? fs[i].type = some inf2 := by rw [← q1.2]; exact j1
              simp only [Array.getElem?_map, hfs, Option.map_some, Program.cellsOf, j1', Option.getD_some, j2, q1.1]
        obtain ⟨xs', r1, r2, r3⟩ := fillS_run h _ (fun i => (fs.map fun f => (f.offset, P.cellsOf f.type))[i]?) hpl ps.toList L.zero cs z.cells hcs (by omega) (fun i => .conc _ _ (i7 _ _ i))
        refine op_val h hd (x := .agg xs') ?_ (.agg xs' cs r2 r3) hK
        simp only [execOp, ho, Instr.build, Sem.run_bind, run_zero i1 i4, Result.andThen_ok, run_underlying h1, run_places h4, hparts, r1, Sem.run_pure]
      · exact hob.elim
    · rename_i len et
      have := TkOk_arr h2
      subst this
      cases he : tyOf cx et with
      | none => rw [he] at hob; exact hob.elim
      | some Le =>
        obtain ⟨inf2, _, j1, j2, _⟩ := (tyRun hP he).info
        simp only [he] at hob hK
        split at hob
        · rename_i cs hcs
          simp only [hcs] at hK
          obtain ⟨xs', r1, r2, r3⟩ := fillS_run h _ (fun i => some (i * inf2.size, inf2.size)) (fun i p hp => by rw [j2]; exact hp) ps.toList L.zero cs z.cells hcs (by omega) (fun i => .conc _ _ (i7 _ _ i))
          refine op_val h hd (x := .agg xs') ?_ (.agg xs' cs r2 r3) hK
          simp only [execOp, ho, Instr.build, Sem.run_bind, run_zero i1 i4, Result.andThen_ok, run_underlying h1, run_size j1, hparts, r1, Sem.run_pure]
        · exact hob.elim

theorem kBs_get {m : List (Nat × Chunk)} : ∀ {ks : List CK} {vs : List SV}, kBs ks vs = true → vs.length = ks.length ∧ ∀ j, j < ks.length → kB (ks.getD j .other) (vs.getD j .any) = true
  | [], [], _ => ⟨rfl, fun j hj => by simp at hj⟩
  | k :: r, v :: s, h => by
    simp only [kBs, Bool.and_eq_true] at h
    obtain ⟨h1, h2⟩ := kBs_get (m := m) h.2
    refine ⟨by simp [h1], fun j hj => ?_⟩
    cases j with
    | zero => simpa using h.1
    | succ j => simpa using h2 j (by simpa using hj)
  | [], _ :: _, h => by simp [kBs] at h
  | _ :: _, [], h => by simp [kBs] at h

theorem kB_ok {k : CK} {v : SV} (h : kB k v = true) : kOk k v ∧ closed v = true ∧ ∀ m, oneB m v = true := by
  cases k <;> cases v <;> simp only [kB, reduceCtorEq, decide_eq_true_eq] at h
  · subst h; exact ⟨⟨_, rfl⟩, rfl, fun _ => rfl⟩
  · exact ⟨.inr (.inr ⟨_, rfl⟩), rfl, fun _ => rfl⟩
  · exact ⟨.inl rfl, rfl, fun _ => rfl⟩
  · exact ⟨.inr (.inl rfl), rfl, fun _ => rfl⟩
  · exact ⟨⟨_, rfl⟩, rfl, fun _ => rfl⟩
  · exact ⟨⟨_, rfl⟩, rfl, fun _ => rfl⟩
  · exact ⟨⟨_, _, rfl⟩, rfl, fun _ => rfl⟩
  · have := cksEq_eq _ _ h
    subst this
    exact ⟨.inr ⟨_, rfl⟩, rfl, fun _ => rfl⟩
  · exact ⟨.inl rfl, rfl, fun _ => rfl⟩

theorem kBs_cells {m : List (Nat × Chunk)} {ks : List CK} {v : SV} (h : kBs ks v.cells = true) : cellsB m v = true ∧ shOk ks v := by
  obtain ⟨h1, h2⟩ := kBs_get (m := m) h
  refine ⟨?_, h1, fun j hj => (kB_ok (h2 j hj)).1⟩
  by_cases hv : ∃ cs, v = .agg cs
  · obtain ⟨cs, rfl⟩ := hv; rfl
  · have e : v.cells = [v] := by cases v <;> first | rfl | (exact absurd ⟨_, rfl⟩ hv)
    have e2 : cellsB m v = oneB m v := by cases v <;> first | rfl | (exact absurd ⟨_, rfl⟩ hv)
    rw [e] at h1 h2
    have := (kB_ok (h2 0 (by simp at h1; omega))).2.2 m
    rw [e2]; simpa using this

theorem kBsL_get {ks : List CK} : ∀ {l : List SV}, kBsL ks l = true → ∀ v, v ∈ l → kBs ks v.cells = true
  | [], _, v, hv => by cases hv
  | x :: r, h, v, hv => by
    simp only [kBsL, Bool.and_eq_true] at h
    rcases List.mem_cons.1 hv with rfl | hv
    · exact h.1
    · exact kBsL_get h.2 v hv

/-- A slice literal's cells. -/
theorem fillRow {n sz : Nat} (e : Operand → Value) : ∀ (ps : List (Nat × Operand)) (k : Nat) (xs : Array Value), (∀ j p, ps[j]? = some p → p.1 = k + j) → (∀ p, p ∈ ps → (e p.2).cells.size = sz) → (k + ps.length) * sz ≤ xs.size →
    ∃ xs', Instr.fill (fun i => some (i * sz, sz)) xs (ps.map fun p => (p.1, e p.2)) = some xs' ∧ xs'.size = xs.size ∧ (∀ q, q < k * sz → xs'.getD q undef = xs.getD q undef) ∧
      ∀ i j p, ps[i]? = some p → j < sz → xs'.getD ((k + i) * sz + j) undef = (e p.2).cells.getD j undef
  | [], k, xs, _, _, _ => ⟨xs, rfl, rfl, fun _ _ => rfl, fun i j p hp => by simp at hp⟩
  | p :: r, k, xs, hp, hs, hn => by
    have h0 : p.1 = k := by simpa using hp 0 p rfl
    have hsz := hs p (List.mem_cons_self ..)
    simp only [List.length_cons] at hn
    have hle : k * sz + sz ≤ xs.size := by
      have : (k + 1) * sz ≤ (k + (r.length + 1)) * sz := Nat.mul_le_mul_right _ (by omega)
      rw [Nat.add_mul, Nat.one_mul] at this
      omega
    obtain ⟨xs', q1, q2, q3, q4⟩ := fillRow (n := n) e r (k + 1) (layAt (p.1 * sz) (e p.2).cells.toList xs 0) (fun j p' hj => by have := hp (j + 1) p' (by simpa using hj); omega) (fun p' hp' => hs p' (List.mem_cons_of_mem _ hp')) (by rw [layAt_size, show k + 1 + r.length = k + (r.length + 1) by omega]; exact hn)
    refine ⟨xs', ?_, by rw [q2, layAt_size], fun q hq => ?_, fun i j p' hp' hj => ?_⟩
    · rw [List.map_cons, fill_cons _ xs p.1 (e p.2) _ rfl hsz (by rw [h0]; exact hle)]
      exact q1
    · rw [q3 q (by rw [Nat.add_mul]; omega), layAt_getD _ _ _ _ _ (by rw [h0]; simp; omega), if_neg (by rw [h0]; omega)]
    · cases i with
      | zero =>
        simp only [List.getElem?_cons_zero, Option.some.injEq] at hp'
        subst hp'
        rw [q3 _ (by rw [Nat.add_zero, Nat.add_mul, Nat.one_mul]; omega), layAt_getD _ _ _ _ _ (by rw [h0]; simp; omega), if_pos (by rw [h0]; simp; omega)]
        rw [h0]
        have : (k + 0) * sz + j - (k * sz + 0) = j := by rw [Nat.add_zero]; omega
        rw [this]
        simp [Array.getD_eq_getD_getElem?, List.getD_eq_getElem?_getD]
      | succ i =>
        have := q4 i j p' (by simpa using hp') hj
        rw [show k + (i + 1) = k + 1 + i by omega]
        exact this

theorem zipIdx_all {ps : List (Nat × Operand)} (h : (ps.zipIdx.all fun (p, i) => Nat.beq p.1 i) = true) : ∀ (j : Nat) (p : Nat × Operand), ps[j]? = some p → p.1 = 0 + j := by
  intro j p hp
  rw [List.all_eq_true] at h
  have := h (p, j) (by
    rw [List.mem_iff_getElem?]
    exact ⟨j, by simp [List.getElem?_zipIdx, hp]⟩)
  have := Nat.eq_of_beq_eq_true this
  omega

theorem sound_buildSlice (hP : CxOk P cx) {t n : Nat} {ps : Array (Nat × Operand)} (ho : o.op = .buildSlice t n ps) : Sound cx P o := by
  intro B M I0 G w0 E s a w K Q h hd hob hK
  have e : opx cx s.mem (ev s.tm) o = opE cx s.mem (ev s.tm) o.dst (.buildSlice t n ps) := by simp [opx, ho]
  rw [e] at hob hK
  simp only [opE] at hob hK
  cases hdst : o.dst with
  | none => simp only [hdst] at hob; exact hob.elim
  | some d =>
    simp only [hdst] at hob hK
    cases ht : tyOf cx t with
    | none => simp only [ht] at hob; exact hob.elim
    | some L =>
      simp only [ht] at hob hK
      obtain ⟨dd, h1, h2⟩ := (tyRun hP ht).desc
      cases hk : L.k <;> simp only [hk] at hob hK h2 <;> try exact hob.elim
      rename_i et
      have := TkOk_sl h2
      subst this
      cases hte : tyOf cx et with
      | none => simp only [hte] at hob; exact hob.elim
      | some Le =>
        simp only [hte] at hob hK
        obtain ⟨inf, z, i1, i2, i3, i4, i5, i6, i7⟩ := (tyRun hP hte).info
        cases hfree : lkO s.mem (cx.off + d) with
        | some _ => simp only [hfree] at hob; exact hob.elim
        | none =>
          cases q1 : kBsL Le.ks (resolveL s.mem (ps.toList.map fun x => ev s.tm x.2)) with
          | false => simp only [hfree, q1] at hob; exact hob.elim
          | true =>
            cases q2 : (Nat.beq n (resolveL s.mem (ps.toList.map fun x => ev s.tm x.2)).length && Nat.ble (n * Le.ks.length) 16777216 && Nat.blt 0 Le.ks.length) with
            | false => simp only [hfree, q1, q2] at hob; exact hob.elim
            | true =>
              cases q3 : (ps.toList.zipIdx.all fun (x : (Nat × Operand) × Nat) => Nat.beq x.1.1 x.2) with
              | false => simp only [hfree, q1, q2, q3] at hob; exact hob.elim
              | true =>
                simp only [hfree, q1, q2, q3] at hK
                simp only [Bool.and_eq_true] at q2
                obtain ⟨⟨q4, q5⟩, q6⟩ := q2
                have q4 := Nat.eq_of_beq_eq_true q4
                have q5 := Nat.le_of_ble_eq_true q5
                have q6 : 0 < Le.ks.length := by simpa [Nat.blt_eq] using q6
                rw [resolveL_length, List.length_map] at q4
                generalize hl0 : (ps.toList.map fun x => ev s.tm x.2) = l0 at q1 hK
                -- what goes with it is written no more
                obtain ⟨E', s', f1, f2, f3, f4, f5⟩ := h.freeze (namesL l0) s.mem (fun _ _ => .inl rfl)
                have hfz := frozen_of f3
                have hlen : l0.length = ps.toList.length := by rw [← hl0]; simp
                have helem : ∀ (i : Nat) (p : Nat × Operand), ps.toList[i]? = some p → (a.eval p.2).cells.size = Le.ks.length ∧ shOk Le.ks ((resolveL s.mem l0).getD i .any) ∧ ∀ j, j < Le.ks.length → Conc E'.I w ((a.eval p.2).cells.getD j undef) (((resolveL s.mem l0).getD i .any).cells.getD j .any) := by
                  intro i p hp
                  have hi : i < l0.length := by rw [hlen]; exact (List.getElem?_eq_some_iff.1 hp).1
                  have hcv : CV E' (lkO s'.mem) w (a.eval p.2) (l0.getD i .any) := by
                    have := f1.eval p.2
                    rw [f2] at this
                    rw [← hl0, List.getD_eq_getElem?_getD, List.getElem?_map, hp]
                    exact this
                  have hcv2 := resolveL_cv f1.ch l0 hfz i _ hcv
                  have hmem : (resolveL s.mem l0).getD i .any ∈ resolveL s.mem l0 := by
                    have hi' : i < (resolveL s.mem l0).length := by rw [resolveL_length]; exact hi
                    rw [List.getD_eq_getElem?_getD, List.getElem?_eq_getElem hi']
                    exact List.getElem_mem hi'
                  have hkb := kBsL_get q1 _ hmem
                  obtain ⟨c1, c2⟩ := kBs_cells (m := s'.mem) hkb
                  obtain ⟨d1, d2⟩ := cells_cv f1.ch hcv2 c1
                  refine ⟨by rw [d1, c2.1], c2, fun j hj => ?_⟩
                  exact closed_conc _ _ (kB_ok ((kBs_get (m := s'.mem) hkb).2 j hj)).2.1 (d2 j)
                have hz0 : ¬ n * inf.size > 2 ^ 24 := by rw [i2]; omega
                have hzero : ((Array.range (n * inf.size)).map (fun i => z.cells[i % z.cells.size]!)).size = n * inf.size := by simp
                obtain ⟨xs', r1, r2, _, r4⟩ := fillRow (n := n) (sz := inf.size) a.eval ps.toList 0 ((Array.range (n * inf.size)).map (fun i => z.cells[i % z.cells.size]!)) (zipIdx_all q3) (fun p hp => by
                  obtain ⟨i, hi⟩ := List.getElem?_of_mem hp
                  rw [i2]; exact (helem i p hi).1) (by rw [hzero, q4]; simp)
                have hrun : (execOp a.eval o).run P w = .ok (.value (.slice (some ⟨w.heap.size, 0, none⟩) n n)) (w.alloc (.cells xs' et)) := by
                  have hparts : (ps.map fun p => (p.1, a.eval p.2)).toList = ps.toList.map fun p => (p.1, a.eval p.2) := by simp
                  simp only [execOp, ho, Instr.buildSlice, Sem.run_bind, run_underlying h1, Result.andThen_ok, run_size i1]
                  rw [if_neg hz0]
                  by_cases h0 : n * inf.size = 0
                  · rw [if_pos h0]
                    have e0 : ((Array.range (n * inf.size)).map (fun i => z.cells[i % z.cells.size]!)) = ((Array.range (n * inf.size)).map (fun i => (#[] : Array Value)[i % (#[] : Array Value).size]!)) := by rw [h0]; simp
                    rw [e0] at r1
                    simp only [Sem.run_bind, Sem.run_pure, Result.andThen_ok, hparts, r1, run_newRow']
                  · rw [if_neg h0]
                    simp only [Sem.run_bind, Sem.run_pure, Result.andThen_ok, hparts, run_zero i1 i4, r1, run_newRow']
                have hres := f1.row (c := cx.off + d) (ver := 0) (e := et) (ks := Le.ks) (l := resolveL s.mem l0) (x := .slice (some ⟨w.heap.size, 0, none⟩) n n) (w' := w.alloc (.cells xs' et)) (row := none) (fz := []) (d := some d) rfl (fun _ => rfl)
                  (.inl ⟨by
                    rw [f3]
                    have : lkO (freezes s.mem (namesL l0)) (cx.off + d) = none := freezes_none (fun v e ks l hh => by rw [hfree] at hh; cases hh) _
                    rw [this]; exact hfree, rfl⟩) ⟨rfl, rfl, rfl, by simp, fun k hk _ => heap_push w _ k hk⟩ (fun k hk => by cases hk) (fun b hb => by
                    simp only [Value.ownBlock, Option.some.injEq] at hb
                    subst hb
                    exact ⟨by simp, .inr (Nat.le_refl _)⟩) (fun v hv => (kBs_cells (m := s.mem) (kBsL_get q1 v hv)).2) (xs := xs'.toList) ?_ ?_ (fun k hk => dOk_lt hd k (by rw [hdst]; exact hk))
                · unfold Oper.wp
                  rw [hrun]
                  refine hK (E'.withRow (cx.off + d) (.slice (some ⟨w.heap.size, 0, none⟩) n n)) _ _ ?_
                  rw [hdst]
                  refine hres.congr (fun t => by simp only [upd, f2]) (fun c => ?_)
                  simp only [upd]
                  rw [List.cons_append, lkO_cons, List.singleton_append, lkO_cons, lkO_append, f3]
                  split
                  · rfl
                  · cases lkO (freezes s.mem (namesL l0)) c <;> rfl
                · have : (resolveL s.mem l0).length = n := by rw [resolveL_length, hlen, q4]
                  rw [this, ← i2]
                  exact World.ownsRow_lit w xs' n (Nat.zero_le _) (by simp only [maxLen]; have : n * 1 ≤ n * Le.ks.length := Nat.mul_le_mul_left _ q6; omega) (by rw [r2, hzero])
                · intro i j hi hj
                  have hi' : i < ps.toList.length := by rw [resolveL_length, hlen] at hi; exact hi
                  have hp := List.getElem?_eq_getElem hi'
                  have := r4 i j _ hp (by rw [i2]; exact hj)
                  rw [Nat.zero_add, i2] at this
                  have e5 : xs'.toList.getD (i * Le.ks.length + j) undef = xs'.getD (i * Le.ks.length + j) undef := by simp [List.getD_eq_getElem?_getD, Array.getD_eq_getD_getElem?]
                  rw [e5, this]
                  have := (helem i _ hp).2.2 j hj
                  exact this.mono (fun _ h => h) (fun b hb => heap_push w _ b (f1.inew b hb).1)

theorem freezes_notin {m : List (Nat × Chunk)} {c : Nat} : ∀ {cs : List Nat}, c ∉ cs → lkO (freezes m cs) c = none
  | [], _ => rfl
  | d :: r, h => by
    have ih := freezes_notin (m := m) (cs := r) (c := c) (fun hc => h (List.mem_cons_of_mem _ hc))
    simp only [freezes]
    split
    · rw [lkO_cons, if_neg (fun (e : d = c) => h (by subst e; exact List.mem_cons_self ..))]; exact ih
    · exact ih
theorem resolve_cells (m : List (Nat × Chunk)) : ∀ v : SV, (resolve m v).cells = resolveL m v.cells
  | .osl c ver => by
    simp only [SV.cells, resolveL, resolve]
    cases lkO m c with
    | none => rfl
    | some ch =>
      cases ch with
      | row v e ks l => cases hb : Nat.beq v ver <;> simp only [hb]
      | froz v ks l => cases hb : Nat.beq v ver <;> simp only [hb]
      | _ => rfl
  | .agg cs => rfl
  | .tup cs => rfl
  | .fn f cs => rfl
  | .any => rfl
  | .und => rfl
  | .int _ _ => rfl
  | .bool _ => rfl
  | .tt => rfl
  | .ff => rfl
  | .str _ => rfl
  | .flt _ => rfl
  | .cpx _ _ => rfl
  | .ptr _ _ => rfl
  | .ptx _ _ => rfl
  | .rptr _ _ _ _ _ => rfl
  | .sl _ _ => rfl
  | .ep _ _ _ _ => rfl
  | .oep _ _ _ _ _ => rfl
  | .csl _ _ _ => rfl
  | .nb _ => rfl
  | .fsl _ _ => rfl
  | .own _ _ _ => rfl
  | .lp _ _ => rfl
  | .mpp _ => rfl
  | .itp _ => rfl
  | .otl _ _ _ _ => rfl
  | .nilsl => rfl
  | .nilp => rfl

theorem sound_store (hP : CxOk P cx) {t : Nat} {y z : Operand} (ho : o.op = .store t y z) : Sound cx P o := by
  intro B M I0 G w0 E s a w K Q h hd hob hK
  have e : opx cx s.mem (ev s.tm) o = opE cx s.mem (ev s.tm) o.dst (.store t y z) := by simp [opx, ho]
  rw [e] at hob hK
  simp only [opE] at hob hK
  have hy := h.eval y
  have hz := h.eval z
  cases ht : tyOf cx t with
  | none => rw [ht] at hob; exact hob.elim
  | some L =>
    have hL := tyRun hP ht
    obtain ⟨inf, zv, i1, i2, _⟩ := hL.info
    simp only [ht] at hob hK
    cases q1 : Nat.beq (ev s.tm z).cells.length L.ks.length <;> cases q2 : cellsB s.mem (ev s.tm z) <;> cases q3 : oneL s.mem (ev s.tm z).cells <;> simp only [q1, q2, q3] at hob hK <;> try exact hob.elim
    have q1' := Nat.eq_of_beq_eq_true q1
    obtain ⟨z1, z2⟩ := cells_cv h.ch hz q2
    have z3 : ∀ v ∈ (a.eval z).cells.toList, v.oneCell' = true := oneL_one h.ch _ _ (by simpa using z1) q3 (fun i => by simpa [Array.getD_eq_getD_getElem?, List.getD_eq_getElem?_getD] using z2 i)
    -- the store itself
    have main : ∀ (c b off bt : Nat) (cs : List SV), roK c = false → a.eval y = .pointer (some ⟨b, off, none⟩) → lkO s.mem c = some (.box bt cs) → E.loc c = some b → off + L.ks.length ≤ cs.length →
        (∀ E' a' w', Rel P cx.nt B M I0 G w0 E' (upd s o.dst .und [(c, .box bt (setL cs off (ev s.tm z).cells))]) a' w' → K a' w') → Oper.wp P o a w K Q := by
      intro c b off bt cs hro e1 hm hl hn hK
      obtain ⟨xs, h1, h2, h3⟩ := h.boxAt hm hl
      have hrun : (execOp a.eval o).run P w = .ok .skip (w.setRow b (xs.toList.take off ++ (a.eval z).cells.toList ++ xs.toList.drop (off + (a.eval z).cells.size)).toArray) := by
        have hst := run_storeCells_at P b off bt (a.eval z).cells.toList 0 xs w h1 (by simp; omega) z3
        simp only [Nat.add_zero, Array.length_toList] at hst
        simp only [execOp, ho, Instr.storeAt, storeVar, e1, Instr.sureAddr, Sem.run_bind, Sem.run_pure, Result.andThen_ok, run_size i1]
        rw [Sem.run_ite, if_neg (by omega), hst]
        rfl
      unfold Oper.wp
      rw [hrun]
      have hheap := setRow_heap w b xs (xs.toList.take off ++ (a.eval z).cells.toList ++ xs.toList.drop (off + (a.eval z).cells.size)).toArray bt (0, 0) h1
      refine hK E _ _ (h.store (x := undef) (v := .und) hro hm hl ?_ ?_ (dOk_lt hd) (.conc _ _ .und) hheap (fun k hk => setRow_other _ _ _ _ hk) (by simp [World.setRow]) ⟨rfl, rfl, rfl⟩)
      · rw [setL_length]; simp; omega
      · intro i
        rw [storeRow_getD _ _ _ _ (by omega), setL_getD _ _ _ _ (by omega)]
        by_cases hi : off ≤ i ∧ i < off + (a.eval z).cells.size
        · rw [if_pos hi, if_pos (by omega)]; exact z2 _
        · rw [if_neg hi, if_neg (by omega)]; exact h3 i
    cases hv : ev s.tm y with
    | ptr c off =>
      rw [hv] at hy
      simp only [hv] at hob hK
      obtain ⟨b, bt, cs, e1, hm, hl⟩ := hy.inv_ptr
      simp only [hm] at hob hK
      cases hb : (Nat.ble (off + L.ks.length) cs.length && !(roK c)) with
      | false => simp only [hb] at hob; exact hob.elim
      | true =>
        simp only [hb] at hK
        simp only [Bool.and_eq_true, Bool.not_eq_true'] at hb
        exact main c b off bt cs hb.2 e1 hm hl (Nat.le_of_ble_eq_true hb.1) hK
    | ptx c off =>
      rw [hv] at hy
      simp only [hv] at hob hK
      obtain ⟨b, bt, cs, e1, hm, hl⟩ := hy.inv_ptx
      simp only [hm] at hob hK
      cases hro : roK c with
      | true => simp only [hro] at hob; exact hob.elim
      | false =>
        simp only [hro] at hob hK
        exact main c b off bt cs hro e1 hm hl hob.out hK
    | rptr c sz i off ver =>
      rw [hv] at hy
      simp only [hv] at hob hK
      cases hm : lkO s.mem c with
      | none => simp only [hm] at hob; exact hob.elim
      | some ch =>
        cases ch with
        | gh => simp only [hm] at hob; exact hob.elim
        | mp => simp only [hm] at hob; exact hob.elim
        | it => simp only [hm] at hob; exact hob.elim
        | box => simp only [hm] at hob; exact hob.elim
        | froz => simp only [hm] at hob; exact hob.elim
        | row v e ks l =>
          simp only [hm] at hob hK
          cases hq : (Nat.beq v ver && Nat.beq sz ks.length && cksEq ((ks.drop off).take L.ks.length) L.ks && kBs L.ks (resolveL s.mem (ev s.tm z).cells) && Nat.blt 0 L.ks.length && !((names (ev s.tm z)).contains c)) with
          | false => simp only [hq] at hob; exact hob.elim
          | true =>
            simp only [hq] at hob hK
            simp only [Bool.and_eq_true] at hq
            obtain ⟨⟨⟨⟨⟨p1, p2⟩, p3⟩, p4⟩, p5⟩, p6⟩ := hq
            have p1 := Nat.eq_of_beq_eq_true p1
            have p2 := Nat.eq_of_beq_eq_true p2
            have p3 := cksEq_eq _ _ p3
            rw [Nat.blt_eq] at p5
            obtain ⟨k1, k2⟩ := kBs_get7 p4
            obtain ⟨hi⟩ := hob
            subst p2
            -- what goes into it is written no more
            obtain ⟨E', s', f1, f2, f3, f4, f5⟩ := h.freeze (names (ev s.tm z)) s.mem (fun _ _ => .inl rfl)
            have hm0 := hm
            have hm : lkO s'.mem c = some (.row v e ks l) := by
              rw [f3, freezes_notin (by simpa using p6), hm0]
            have hcvz : CV E' (lkO s'.mem) w (a.eval z) (resolve s.mem (ev s.tm z)) := resolve_cv f1.ch _ _ (frozen_of f3) (by have := f1.eval z; rw [f2] at this; exact this)
            have hrc : resolveL s.mem (ev s.tm z).cells = (resolve s.mem (ev s.tm z)).cells := (resolve_cells _ _).symm
            have hy : CV E' (lkO s'.mem) w (a.eval y) (.rptr c ks.length i off ver) := by have := f1.eval y; rw [f2, hv] at this; exact this
            have z2 : ∀ i, CV E' (lkO s'.mem) w ((a.eval z).cells.getD i undef) ((resolveL s.mem (ev s.tm z).cells).getD i .any) := by
              rw [hrc]; exact (cells_cv f1.ch hcvz (kBs_cells (by rw [← hrc]; exact p4)).1).2
            have hoff : off + L.ks.length ≤ ks.length := by
              have := congrArg List.length p3
              simp only [List.length_take, List.length_drop] at this
              omega
            have hkd : ∀ j, j < L.ks.length → L.ks.getD j .other = ks.getD (off + j) .other := fun j hj => by
              rw [← p3]
              simp only [List.getD_eq_getElem?_getD, List.getElem?_take, List.getElem?_drop, if_pos hj]
            have hrow : RowR E' w c e ks l := by have := f1.ch c; rw [hm] at this; exact this
            obtain ⟨r1, ⟨r2, xs, ro, r4⟩ | ⟨r0, _⟩⟩ := hrow
            rotate_left
            · rw [r0] at hi; simp at hi
            rcases ro.2 with ⟨_, r0⟩ | ⟨g, cap, cur, c1, c2, c3, c4, c5, c6, c7⟩
            · omega
            have hl : E'.loc c = some g := by rw [r2, c1]; rfl
            obtain ⟨v', e1, e2, e3⟩ := hy.inv_rptr
            rw [hm] at e1
            simp only [verOf, Option.some.injEq] at e1
            have e4 := e3 (by omega) g hl
            have zs : (a.eval z).cells.toList.length = L.ks.length := by simp; omega
            have zs' : (a.eval z).cells.size = L.ks.length := by simpa using zs
            have hin : i * ks.length + ks.length ≤ l.length * ks.length := by
              have : (i + 1) * ks.length ≤ l.length * ks.length := Nat.mul_le_mul_right _ hi
              rw [Nat.add_mul, Nat.one_mul] at this; exact this
            have hcap : l.length * ks.length ≤ cur.size := by rw [c6]; exact Nat.mul_le_mul_right _ c4
            generalize hcu : (cur.toList.take (i * ks.length + off) ++ (a.eval z).cells.toList ++ cur.toList.drop ((i * ks.length + off) + (a.eval z).cells.size)).toArray = cur'
            have hcs : cur'.size = cur.size := by rw [← hcu]; simp; omega
            have hrun : (execOp a.eval o).run P w = .ok .skip (w.setRow g cur') := by
              have hst := run_storeCells_at P g (i * ks.length + off) e (a.eval z).cells.toList 0 cur w c3 (by simp; omega) z3
              simp only [Nat.add_zero, Array.length_toList, hcu] at hst
              simp only [execOp, ho, Instr.storeAt, storeVar, e4, Instr.sureAddr, Sem.run_bind, Sem.run_pure, Result.andThen_ok, run_size i1]
              rw [Sem.run_ite, if_neg (by omega), hst]
              rfl
            have hheap := setRow_heap w g cur cur' e (0, 0) c3
            have hI : ∀ k, E'.I k → (w.setRow g cur').heap[k]? = w.heap[k]? := fun k hk => setRow_other _ _ _ _ (fun e => (f1.loc c g hl).2.1 (e ▸ hk))
            have hsh : ∀ {j}, j < ks.length → kOk (ks.getD j .other) ((l.getD i .any).cells.getD j .any) := fun hj => shOk_get r1 hi hj
            have hel : (l.getD i .any).cells.length = ks.length := by
              have hmem : l.getD i .any ∈ l := by rw [List.getD_eq_getElem?_getD, List.getElem?_eq_getElem hi]; exact List.getElem_mem hi
              exact (r1 _ hmem).1
            have hsc : (stEl ks.length (l.getD i .any) off (resolveL s.mem (ev s.tm z).cells)).cells = setL (l.getD i .any).cells off (resolveL s.mem (ev s.tm z).cells) :=
              stEl_cells hel (by omega) (by omega) (fun j hj => by have := (kB_ok7 (k2 j (by omega))).2.2; exact this)
            have hgd : ∀ j, (setL (l.getD i .any).cells off (resolveL s.mem (ev s.tm z).cells)).getD j .any = if off ≤ j ∧ j < off + L.ks.length then (resolveL s.mem (ev s.tm z).cells).getD (j - off) .any else (l.getD i .any).cells.getD j .any := fun j => by
              rw [setL_getD _ _ _ _ (by omega), k1]
            unfold Oper.wp
            rw [hrun]
            have c2' : ∀ (l' : List SV) (k : Nat), lkO (upd s o.dst .und ((c, .row v e ks l') :: freezes s.mem (names (ev s.tm z)))).mem k = lkO (upd s' o.dst .und [(c, .row v e ks l')]).mem k := fun l' k => by
              simp only [upd]
              rw [List.cons_append, lkO_cons, List.singleton_append, lkO_cons, lkO_append, f3]
              split
              · rfl
              · cases lkO (freezes s.mem (names (ev s.tm z))) k <;> rfl
            refine hK E' _ _ ((f1.storeRow (x := undef) (u := .und) hm hl (fun k hk => setRow_other _ _ _ _ hk) (by simp [World.setRow]) ⟨rfl, rfl, rfl⟩ ⟨fun v hv => ?_, .inl ⟨r2, (cur'.toList.take (l.length * ks.length)), ⟨?_, .inr ⟨g, cap, cur', ?_, c2, hheap, ?_, c5, by rw [hcs]; exact c6, ?_⟩⟩, fun i' j hi' hj => ?_⟩⟩ (dOk_lt hd) (.conc _ _ .und)).congr (fun t => by simp only [upd, f2]) (c2' _))
            · rcases List.mem_or_eq_of_mem_set hv with hv | hv
              · exact r1 v hv
              · subst hv
                refine ⟨by rw [hsc, setL_length, hel], fun j hj => ?_⟩
                rw [hsc, hgd]
                by_cases hr : off ≤ j ∧ j < off + L.ks.length
                · rw [if_pos hr]
                  have := (kB_ok7 (k2 (j - off) (by omega))).1
                  rw [hkd _ (by omega)] at this
                  have e5 : off + (j - off) = j := by omega
                  rw [e5] at this; exact this
                · rw [if_neg hr]; exact hsh hj
            · simp only [List.length_take, List.length_set, Array.length_toList]; omega
            · rw [c1, List.length_set]
            · rw [List.length_set]; exact c4
            · rw [List.length_set]
            · rw [List.length_set] at hi'
              have hlt : i' * ks.length + j < l.length * ks.length := by
                have : (i' + 1) * ks.length ≤ l.length * ks.length := Nat.mul_le_mul_right _ hi'
                rw [Nat.add_mul, Nat.one_mul] at this
                omega
              have g1 : (cur'.toList.take (l.length * ks.length)).getD (i' * ks.length + j) undef = cur'.getD (i' * ks.length + j) undef := by
                rw [List.getD_eq_getElem?_getD, List.getElem?_take, if_pos hlt, Array.getD_eq_getD_getElem?, Array.getElem?_toList]
              have g2 : xs.getD (i' * ks.length + j) undef = cur.getD (i' * ks.length + j) undef := by
                rw [← c7, List.getD_eq_getElem?_getD, List.getElem?_take, if_pos hlt, Array.getD_eq_getD_getElem?, Array.getElem?_toList]
              have g3 := storeRow_getD cur (a.eval z).cells (i * ks.length + off) (i' * ks.length + j) (by omega)
              rw [hcu, zs'] at g3
              rw [g1, g3]
              have hold := (r4 i' j hi' hj)
              rw [g2] at hold
              have hel2 : elCell (l.set i (stEl ks.length (l.getD i .any) off (resolveL s.mem (ev s.tm z).cells))) i' j = if i = i' then (stEl ks.length (l.getD i .any) off (resolveL s.mem (ev s.tm z).cells)).cells.getD j .any else elCell l i' j := by
                unfold elCell
                rw [set_getD hi']
                by_cases e5 : i = i'
                · rw [if_pos e5, if_pos e5]
                · rw [if_neg e5, if_neg e5]
              rw [hel2]
              by_cases e5 : i = i'
              · subst e5
                rw [if_pos rfl, hsc, hgd]
                by_cases hr : off ≤ j ∧ j < off + L.ks.length
                · rw [if_pos hr, if_pos (by omega)]
                  have e6 : i * ks.length + j - (i * ks.length + off) = j - off := by omega
                  rw [e6]
                  have := closed_conc _ _ (kB_ok7 (k2 (j - off) (by omega))).2.1 (z2 (j - off))
                  exact this.mono (fun _ h => h) hI
                · rw [if_neg hr, if_neg (by omega)]
                  exact hold.mono (fun _ h => h) hI
              · rw [if_neg e5]
                have hne : ¬ (i * ks.length + off ≤ i' * ks.length + j ∧ i' * ks.length + j < i * ks.length + off + L.ks.length) := by
                  rcases Nat.lt_or_gt_of_ne e5 with h5 | h5
                  · have : (i + 1) * ks.length ≤ i' * ks.length := Nat.mul_le_mul_right _ h5
                    rw [Nat.add_mul, Nat.one_mul] at this
                    omega
                  · have : (i' + 1) * ks.length ≤ i * ks.length := Nat.mul_le_mul_right _ h5
                    rw [Nat.add_mul, Nat.one_mul] at this
                    omega
                rw [if_neg hne]
                exact hold.mono (fun _ h => h) hI
    | _ => simp only [hv] at hob; exact hob.elim

end
end Go.Rx

