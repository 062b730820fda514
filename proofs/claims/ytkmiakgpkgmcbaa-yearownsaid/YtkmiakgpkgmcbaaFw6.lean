/- The framework, part 6: loads and stores, addresses, arithmetic. -/
import Derived.Test.YtkmiakgpkgmcbaaFw5
namespace Go.Rx
set_option linter.unusedSectionVars false
open Go.RowKit

section
variable {cx : Cx} {P : Program} [Laid P] {B : Nat} {M I0 : Nat → Prop} {G : Nat → Value} {w0 : World} {E : Env} {s : St} {a : Act} {w : World} {o : Oper} {K : Act → World → Prop} {Q : Exit → Act → World → Prop}

theorem addr_add (b off n : Nat) : (⟨b, off, none⟩ : Addr).add n = ⟨b, off + n, none⟩ := by
  unfold Addr.add
  split <;> simp_all

theorem TkOk_agg {d : TypeDesc} {k : TK} (h : TkOk P d k) : (d matches .struct _ | .array _ _) = k.agg := by
  cases d <;> cases k <;> first | rfl | exact h.elim

theorem run_isAgg {t : Nat} {L : TyL} (h : TyOk P t L) (w : World) : (isAgg t).run P w = .ok L.k.agg w := by
  obtain ⟨d, h1, h2⟩ := h.desc
  have := TkOk_agg h2
  unfold isAgg
  rw [Sem.run_bind, run_underlying h1, Result.andThen_ok]
  cases d <;> cases hk : L.k <;> rw [hk] at h2 <;> first | rfl | exact h2.elim

/-- What a variable of a type holds. -/
theorem run_loadVar' {t : Nat} {L : TyL} (h : TyOk P t L) (b off : Nat) (f : Nat → Value) (hc : ∀ j, j < L.ks.length → w.cell? ⟨b, off + j, none⟩ = some (f j)) :
    (loadVar t ⟨b, off, none⟩).run P w = .ok (match L.k.agg with | true => .agg ((List.range L.ks.length).map f).toArray | false => f 0) w := by
  obtain ⟨inf, z, h1, h2, _⟩ := h.info
  unfold loadVar
  rw [Sem.run_bind, run_isAgg h, Result.andThen_ok]
  cases hk : L.k.agg with
  | true =>
    have hl := run_loadCells (P := P) w ⟨b, off, none⟩ L.ks.length f (fun j hj => by rw [addr_add]; exact hc j hj)
    simp [run_size h1, h2, hl]
  | false =>
    have h3 := h.one hk
    have h4 := hc 0 (by omega)
    simp only [Nat.add_zero] at h4
    simp [h4]

theorem range_getD (n : Nat) (f : Nat → Value) (j : Nat) : (((List.range n).map f).toArray).getD j undef = if j < n then f j else undef := by
  simp only [Array.getD_eq_getD_getElem?, List.getElem?_toArray, List.getElem?_map]
  by_cases h : j < n
  · simp [h]
  · rw [List.getElem?_eq_none (by simpa using h)]
    simp [h]

theorem getD_take_drop (cs : List SV) (off n j : Nat) : ((cs.drop off).take n).getD j .any = if j < n then cs.getD (off + j) .any else .any := by
  simp only [List.getD_eq_getElem?_getD, List.getElem?_take, List.getElem?_drop]
  split <;> rfl

/-- The box that a pointer leads to. -/
theorem Rel.boxAt (h : Rel P cx.nt B M I0 G w0 E s a w) {c b t : Nat} {cs : List SV} (hm : lkO s.mem c = some (.box t cs)) (hl : E.loc c = some b) :
    ∃ xs, w.heap[b]? = some (.cells xs t (0, 0)) ∧ xs.size = cs.length ∧ ∀ i, CV E (lkO s.mem) w (xs.getD i undef) (cs.getD i .any) := by
  have hc := h.ch c
  rw [hm] at hc
  obtain ⟨b', xs, h1, h2, h3, h4⟩ := hc
  rw [hl] at h1
  cases h1
  exact ⟨xs, h2, h3, h4⟩

theorem cell_of_heap {b t : Nat} {xs : Array Value} {m : Nat × Nat} (h : w.heap[b]? = some (.cells xs t m)) {j : Nat} (hj : j < xs.size) : w.cell? ⟨b, j, none⟩ = some (xs.getD j undef) := by
  simp [World.cell?, h, hj]

theorem mkCells_getD : ∀ (ks : List CK) (f : Nat → SV) (j0 j : Nat), j < ks.length → (mkCells ks f j0).getD j .any = coerce (ks.getD j .other) (f (j0 + j))
  | [], _, _, _, h => by simp at h
  | k :: r, f, j0, 0, _ => by simp [mkCells]
  | k :: r, f, j0, j + 1, h => by
    have := mkCells_getD r f (j0 + 1) j (by simpa using h)
    simp only [mkCells, List.getD_cons_succ, this]
    congr 2
    omega
theorem mkCells_length : ∀ (ks : List CK) (f : Nat → SV) (j0 : Nat), (mkCells ks f j0).length = ks.length
  | [], _, _ => rfl
  | _ :: r, f, j0 => by simp [mkCells, mkCells_length r f (j0 + 1)]

theorem Conc.coerce {I : Nat → Prop} {x : Value} {v : SV} {k : CK} (h : Conc I w x v) (hk : kOk k v) : Conc I w x (coerce k v) := by
  cases k with
  | int k => obtain ⟨n, rfl⟩ := hk; exact h
  | bool => rcases hk with rfl | rfl | ⟨b, rfl⟩ <;> cases h <;> exact .bool _
  | str => obtain ⟨s, rfl⟩ := hk; exact h
  | flt => obtain ⟨s, rfl⟩ := hk; exact h
  | cpx => obtain ⟨s, t, rfl⟩ := hk; exact h
  | sl ks => rcases hk with rfl | ⟨l, rfl⟩
             · cases h; exact .sl0 none 0 ks
             · exact h
  | other => exact h
theorem CV.coerce {m : Nat → Option Chunk} {x : Value} {v : SV} {k : CK} (h : CV E m w x v) (hk : kOk k v) : CV E m w x (coerce k v) := by
  cases k with
  | int k => obtain ⟨n, rfl⟩ := hk; exact h
  | bool => rcases hk with rfl | rfl | ⟨b, rfl⟩ <;> cases h <;> rename_i h <;> cases h <;> exact .conc _ _ (.bool _)
  | str => obtain ⟨s, rfl⟩ := hk; exact h
  | flt => obtain ⟨s, rfl⟩ := hk; exact h
  | cpx => obtain ⟨s, t, rfl⟩ := hk; exact h
  | sl ks => rcases hk with rfl | ⟨l, rfl⟩
             · cases h with | conc _ _ h => cases h; exact .conc _ _ (.sl0 none 0 ks)
             · exact h
  | other => exact h

/-- A load off cells that are known one by one. -/
theorem ldBy_cv {t : Nat} {L : TyL} (hL : TyOk P t L) {m : Nat → Option Chunk} {f : Nat → Value} {g : Nat → SV} (h : ∀ j, j < L.ks.length → CV E m w (f j) (g j)) (hk : ksOk L.ks g) :
    CV E m w (match L.k.agg with | true => .agg ((List.range L.ks.length).map f).toArray | false => f 0) (ldBy L g) := by
  unfold ldBy
  cases hk' : L.k.agg with
  | true =>
    refine .agg _ _ (by simp [mkCells_length]) fun i => ?_
    rw [range_getD]
    by_cases hi : i < L.ks.length
    · rw [if_pos hi, mkCells_getD _ _ _ _ hi, Nat.zero_add]
      exact (h i hi).coerce (hk i hi)
    · rw [List.getD_eq_getElem?_getD, List.getElem?_eq_none (by rw [mkCells_length]; omega)]
      exact .conc _ _ (.any _)
  | false =>
    have h1 := hL.one hk'
    have h2 := hk 0 (by omega)
    have h3 : L.ks.headD .other = L.ks.getD 0 .other := by cases L.ks <;> rfl
    show CV E m w (f 0) (Go.Rx.coerce (L.ks.headD .other) (g 0))
    rw [h3]
    exact (h 0 (by omega)).coerce h2

theorem ldAt_cv {t : Nat} {L : TyL} (hL : TyOk P t L) {m : Nat → Option Chunk} {f : Nat → Value} {cs : List SV} {off : Nat} (hn : off + L.ks.length ≤ cs.length) (h : ∀ j, j < L.ks.length → CV E m w (f j) (cs.getD (off + j) .any)) :
    CV E m w (match L.k.agg with | true => .agg ((List.range L.ks.length).map f).toArray | false => f 0) (ldAt L cs off) := by
  unfold ldAt
  cases hk : L.k.agg with
  | true =>
    refine .agg _ _ (by simp; omega) fun i => ?_
    rw [range_getD, getD_take_drop]
    by_cases hi : i < L.ks.length
    · rw [if_pos hi, if_pos hi]; exact h i hi
    · rw [if_neg hi, if_neg hi]; exact .conc _ _ (.any _)
  | false =>
    have h1 := hL.one hk
    exact h 0 (by omega)

/-- The cells behind a pointer into a slice that nobody writes. -/
theorem ep_cells {I : Nat → Prop} {x : Value} {ks : List CK} {l : List SV} {i o : Nat} (h : Conc I w x (.ep ks l i o)) : ∃ b off, x = .pointer (some ⟨b, off + o, none⟩) ∧ (∀ e, e ∈ l → shOk ks e) ∧ i < l.length ∧
    ∃ f : Nat → Value, ∀ j, j < ks.length → w.cell? ⟨b, off + j, none⟩ = some (f j) ∧ Conc I w (f j) (elCell l i j) := by
  cases h with
  | ep b off _ _ _ _ x hb hi hsh hx hc => exact ⟨b, off + i * ks.length, rfl, hsh, hi, x i, fun j hj => ⟨hx i j hi hj, hc i j hi hj⟩⟩

theorem shOk_get {ks : List CK} {l : List SV} (h : ∀ e, e ∈ l → shOk ks e) {i j : Nat} (hi : i < l.length) (hj : j < ks.length) : kOk (ks.getD j .other) (elCell l i j) := by
  have h1 := h l[i] (List.getElem_mem hi)
  have h2 := h1.2 j hj
  unfold elCell
  rw [List.getD_eq_getElem?_getD (l := l), List.getElem?_eq_getElem hi]
  exact h2

theorem sound_load (hP : CxOk P cx) {t : Nat} {y : Operand} (ho : o.op = .load t y) : Sound cx P o := by
  intro B M I0 G w0 E s a w K Q h hd hob hK
  have e : opx cx s.mem (ev s.tm) o = opE cx s.mem (ev s.tm) o.dst (.load t y) := by simp [opx, ho]
  rw [e] at hob hK
  simp only [opE] at hob hK
  have hy := h.eval y
  cases ht : tyOf cx t with
  | none => rw [ht] at hob; exact hob.elim
  | some L =>
    have hL := tyRun hP ht
    simp only [ht] at hob hK
    cases hv : ev s.tm y with
    | ptr c off =>
      rw [hv] at hy
      simp only [hv] at hob hK
      obtain ⟨b, bt, cs, e1, hm, hl⟩ := hy.inv_ptr
      simp only [hm] at hob hK
      cases hb : Nat.ble (off + L.ks.length) cs.length with
      | false => simp only [hb] at hob; exact hob.elim
      | true =>
        simp only [hb] at hK
        obtain ⟨xs, h1, h2, h3⟩ := h.boxAt hm hl
        have hn := Nat.le_of_ble_eq_true hb
        refine op_val h hd ?_ (ldAt_cv (f := fun j => xs.getD (off + j) undef) hL hn (fun j _ => h3 (off + j))) hK
        simp only [execOp, ho, Instr.loadAt, e1, Instr.sureAddr, Sem.run_bind, Sem.run_pure, Result.andThen_ok]
        rw [run_loadVar' hL b off (fun j => xs.getD (off + j) undef) (fun j hj => cell_of_heap h1 (by omega))]
        rfl
    | ptx c off =>
      rw [hv] at hy
      simp only [hv] at hob hK
      obtain ⟨b, bt, cs, e1, hm, hl⟩ := hy.inv_ptx
      simp only [hm] at hob hK
      obtain ⟨⟨hn, hk⟩⟩ := hob
      obtain ⟨xs, h1, h2, h3⟩ := h.boxAt hm hl
      refine op_val h hd ?_ (ldBy_cv (f := fun j => xs.getD (off + j) undef) hL (fun j _ => h3 (off + j)) hk) hK
      simp only [execOp, ho, Instr.loadAt, e1, Instr.sureAddr, Sem.run_bind, Sem.run_pure, Result.andThen_ok]
      rw [run_loadVar' hL b off (fun j => xs.getD (off + j) undef) (fun j hj => cell_of_heap h1 (by omega))]
      rfl
    | ep ks l i off =>
      rw [hv] at hy
      simp only [hv] at hob hK
      cases hq : cksEq ((ks.drop off).take L.ks.length) L.ks with
      | false => simp only [hq] at hob; exact hob.elim
      | true =>
        simp only [hq] at hK
        have hq' := cksEq_eq _ _ hq
        have hlen : L.ks.length ≤ ks.length - off := by
          have := congrArg List.length hq'
          simp only [List.length_take, List.length_drop] at this
          omega
        obtain ⟨b, o', e1, hsh, hi, f, hf⟩ := ep_cells hy.inv_ep
        have hlt : ∀ j, j < L.ks.length → off + j < ks.length := fun j hj => by omega
        refine op_val h hd ?_ (ldBy_cv (f := fun j => f (off + j)) hL (fun j hj => .conc _ _ (hf (off + j) (hlt j hj)).2) (fun j hj => ?_)) hK
        · simp only [execOp, ho, Instr.loadAt, e1, Instr.sureAddr, Sem.run_bind, Sem.run_pure, Result.andThen_ok]
          rw [run_loadVar' hL b (o' + off) (fun j => f (off + j)) (fun j hj => by rw [Nat.add_assoc]; exact (hf (off + j) (hlt j hj)).1)]
          rfl
        · have h4 := shOk_get hsh hi (hlt j hj)
          have h5 : L.ks.getD j .other = ks.getD (off + j) .other := by
            rw [← hq']
            simp only [List.getD_eq_getElem?_getD, List.getElem?_take, List.getElem?_drop, if_pos hj]
          rw [h5]; exact h4
    | rptr c sz i off ver =>
      rw [hv] at hy
      simp only [hv] at hob hK
      cases hm : lkO s.mem c with
      | none => simp only [hm] at hob; exact hob.elim
      | some ch =>
        cases ch with
        | gh => simp only [hm] at hob; exact hob.elim
        | mp => simp only [hm] at hob; exact hob.elim
        | it => simp only [hm] at hob; exact hob.elim
        | row v e ks l =>
          simp only [hm] at hob hK
          cases hq : (Nat.beq v ver && Nat.beq sz ks.length && cksEq ((ks.drop off).take L.ks.length) L.ks) with
          | false => simp only [hq] at hob; exact hob.elim
          | true =>
            simp only [hq] at hob hK
            simp only [Bool.and_eq_true] at hq
            obtain ⟨⟨q1, q2⟩, q3⟩ := hq
            have q1 := Nat.eq_of_beq_eq_true q1
            have q2 := Nat.eq_of_beq_eq_true q2
            have hq' := cksEq_eq _ _ q3
            obtain ⟨hi⟩ := hob
            have hlen : L.ks.length ≤ ks.length - off := by
              have := congrArg List.length hq'
              simp only [List.length_take, List.length_drop] at this
              omega
            have hrow : RowR E w c e ks l := by have := h.ch c; rw [hm] at this; exact this
            obtain ⟨g, cap, hl, _, f, hf⟩ := hrow.cells (by omega)
            obtain ⟨v', e1, e2, e3⟩ := hy.inv_rptr
            rw [hm] at e1
            simp only [verOf, Option.some.injEq] at e1
            have e4 := e3 (by omega) g hl
            have hlt : ∀ j, j < L.ks.length → off + j < ks.length := fun j hj => by omega
            refine op_val h hd ?_ (ldBy_cv (f := fun j => f i (off + j)) hL (fun j hj => .conc _ _ (hf i (off + j) hi (hlt j hj)).2) (fun j hj => ?_)) hK
            · simp only [execOp, ho, Instr.loadAt, e4, Instr.sureAddr, Sem.run_bind, Sem.run_pure, Result.andThen_ok]
              rw [run_loadVar' hL g (i * sz + off) (fun j => f i (off + j)) (fun j hj => by rw [q2, Nat.add_assoc]; exact (hf i (off + j) hi (hlt j hj)).1)]
              rfl
            · have h4 := shOk_get hrow.1 hi (hlt j hj)
              have h5 : L.ks.getD j .other = ks.getD (off + j) .other := by
                rw [← hq']
                simp only [List.getD_eq_getElem?_getD, List.getElem?_take, List.getElem?_drop, if_pos hj]
              rw [h5]; exact h4
        | box => simp only [hm] at hob; exact hob.elim
        | froz => simp only [hm] at hob; exact hob.elim
    | _ => simp only [hv] at hob; exact hob.elim
end
end Go.Rx

