/- The framework, part 5: every operation does what the executor says: operations on values. -/
import Derived.Test.YtkmiakgpkgmcbaaFw4
namespace Go.Rx
set_option linter.unusedSectionVars false
open Go.RowKit

section
variable {E : Env} {m : Nat → Option Chunk} {w : World} {x : Value}

theorem CV.inv_tt (h : CV E m w x .tt) : x = .bool true := by cases h with | conc _ _ h => cases h; rfl
theorem CV.inv_ff (h : CV E m w x .ff) : x = .bool false := by cases h with | conc _ _ h => cases h; rfl
theorem CV.inv_bool {b : Bool} (h : CV E m w x (.bool b)) : x = .bool b := by cases h with | conc _ _ h => cases h; rfl
theorem CV.inv_und (h : CV E m w x .und) : x = undef := by cases h with | conc _ _ h => cases h; rfl
theorem CV.inv_int {k : IntKind} {n : Int} (h : CV E m w x (.int k n)) : x = .int k n := by cases h with | conc _ _ h => cases h; rfl
theorem CV.inv_flt {b : Nat} (h : CV E m w x (.flt b)) : x = .float .f64 b := by cases h with | conc _ _ h => cases h; rfl
theorem CV.inv_cpx {a b : Nat} (h : CV E m w x (.cpx a b)) : x = .complex .f64 a b := by cases h with | conc _ _ h => cases h; rfl
theorem CV.inv_str {s : List UInt8} (h : CV E m w x (.str s)) : ∃ b, x = .string b ∧ b.data.toList = s := by cases h with | conc _ _ h => cases h with | str b _ h => exact ⟨b, rfl, h⟩
theorem CV.inv_nilp (h : CV E m w x .nilp) : x = .pointer none := by cases h with | conc _ _ h => cases h; rfl
theorem CV.inv_nb {l : List SV} (h : CV E m w x (.nb l)) : ∃ b, x = .bool b ∧ (b = true → l = []) := by cases h with | conc _ _ h => cases h with | nb b _ h => exact ⟨b, rfl, h⟩
theorem CV.inv_fsl {ks : List CK} {l : List SV} (h : CV E m w x (.fsl ks l)) : ∃ ad, x = .slice ad l.length l.length ∧ Conc E.I w x (.sl ks l) := by cases h with | conc _ _ h => cases h with | fsl ad _ _ h => exact ⟨ad, rfl, h⟩
theorem CV.inv_nilsl (h : CV E m w x .nilsl) : x = .slice none 0 0 := by cases h with | conc _ _ h => cases h; rfl
theorem CV.inv_agg {cs : List SV} (h : CV E m w x (.agg cs)) : ∃ xs, x = .agg xs ∧ xs.size = cs.length ∧ ∀ i, CV E m w (xs.getD i undef) (cs.getD i .any) := by
  cases h with
  | conc _ _ h => cases h with | agg xs _ h1 h2 => exact ⟨xs, rfl, h1, fun i => .conc _ _ (h2 i)⟩
  | agg xs _ h1 h2 => exact ⟨xs, rfl, h1, h2⟩
theorem CV.inv_tup {cs : List SV} (h : CV E m w x (.tup cs)) : ∃ xs, x = .tuple xs ∧ xs.size = cs.length ∧ ∀ i, CV E m w (xs.getD i undef) (cs.getD i .any) := by
  cases h with
  | conc _ _ h => cases h with | tup xs _ h1 h2 => exact ⟨xs, rfl, h1, fun i => .conc _ _ (h2 i)⟩
  | tup xs _ h1 h2 => exact ⟨xs, rfl, h1, h2⟩
theorem CV.inv_fn {f : Nat} {cs : List SV} (h : CV E m w x (.fn f cs)) : ∃ xs, x = .func (.func f) #[] xs ∧ xs.size = cs.length ∧ ∀ i, CV E m w (xs.getD i undef) (cs.getD i .any) := by
  cases h with
  | conc _ _ h => cases h with | fn _ xs _ h1 h2 => exact ⟨xs, rfl, h1, fun i => .conc _ _ (h2 i)⟩
  | fn _ xs _ h1 h2 => exact ⟨xs, rfl, h1, h2⟩
theorem CV.inv_ptr {c off : Nat} (h : CV E m w x (.ptr c off)) : ∃ b t cs, x = .pointer (some ⟨b, off, none⟩) ∧ m c = some (.box t cs) ∧ E.loc c = some b := by
  cases h with
  | conc _ _ h => cases h
  | ptr _ _ b t cs h1 h2 => exact ⟨b, t, cs, rfl, h1, h2⟩
theorem CV.inv_ptx {c off : Nat} (h : CV E m w x (.ptx c off)) : ∃ b t cs, x = .pointer (some ⟨b, off, none⟩) ∧ m c = some (.box t cs) ∧ E.loc c = some b := by
  cases h with
  | conc _ _ h => cases h
  | ptx _ _ b t cs h1 h2 => exact ⟨b, t, cs, rfl, h1, h2⟩
theorem CV.inv_mpp {c : Nat} (h : CV E m w x (.mpp c)) : ∃ b, x = .map (some b) ∧ isMp (m c) = true ∧ E.loc c = some b := by
  cases h with
  | conc _ _ h => cases h
  | mpp _ b h1 h2 => exact ⟨b, rfl, h1, h2⟩
theorem CV.inv_itp {c : Nat} (h : CV E m w x (.itp c)) : ∃ b, x = .pointer (some ⟨b, 0, none⟩) ∧ isIt (m c) = true ∧ E.loc c = some b := by
  cases h with
  | conc _ _ h => cases h
  | itp _ b h1 h2 => exact ⟨b, rfl, h1, h2⟩
theorem isMp_some {ch : Option Chunk} (h : isMp ch = true) : ∃ t kk vk l ck, ch = some (.mp t kk vk l ck) := by
  match ch, h with
  | some (.mp t kk vk l ck), _ => exact ⟨t, kk, vk, l, ck, rfl⟩
theorem isIt_some {ch : Option Chunk} (h : isIt ch = true) : ∃ d a sn z, ch = some (.it d a sn z) := by
  match ch, h with
  | some (.it d a sn z), _ => exact ⟨d, a, sn, z, rfl⟩
theorem CV.inv_osl {c ver : Nat} (h : CV E m w x (.osl c ver)) : ∃ v, verOf (m c) = some v ∧ (ver = v → x = E.cv c) := by
  cases h with
  | conc _ _ h => cases h
  | osl _ _ _ v h1 h2 h3 => exact ⟨v, h1, h3⟩
theorem CV.inv_otl {c sz k ver : Nat} (h : CV E m w x (.otl c sz k ver)) : ∃ v, verOf (m c) = some v ∧ (ver = v → TailV (E.cv c) sz k x) := by
  cases h with
  | conc _ _ h => cases h
  | otl _ _ _ _ _ v h1 h2 h3 => exact ⟨v, h1, h3⟩
theorem CV.inv_rptr {c sz i o ver : Nat} (h : CV E m w x (.rptr c sz i o ver)) : ∃ v, verOf (m c) = some v ∧ ver ≤ v ∧ (ver = v → ∀ b, E.loc c = some b → x = .pointer (some ⟨b, i * sz + o, none⟩)) := by
  cases h with
  | conc _ _ h => cases h
  | rptr _ _ _ _ _ _ v h1 h2 h3 => exact ⟨v, h1, h2, h3⟩
theorem CV.inv_sl {ks : List CK} {l : List SV} (h : CV E m w x (.sl ks l)) : Conc E.I w x (.sl ks l) := by cases h with | conc _ _ h => exact h
theorem oep_inv {I : Nat → Prop} {w : World} {x : Value} {b : Bool} {ks : List CK} {l : List SV} {i o : Nat} (h : Conc I w x (.oep b ks l i o)) : (b = false → x = .pointer none) ∧ (b = true → Conc I w x (.ep ks l i o)) := by
  cases h with
  | oep _ _ _ _ _ _ q1 q2 => exact ⟨q1, q2⟩
theorem CV.inv_oep {b : Bool} {ks : List CK} {l : List SV} {i o : Nat} (h : CV E m w x (.oep b ks l i o)) : Conc E.I w x (.oep b ks l i o) := by cases h with | conc _ _ h => exact h
theorem CV.inv_ep {ks : List CK} {l : List SV} {i o : Nat} (h : CV E m w x (.ep ks l i o)) : Conc E.I w x (.ep ks l i o) := by cases h with | conc _ _ h => exact h
end

mutual
theorem ckEq_eq : ∀ a b, ckEq a b = true → a = b
  | .int k, .int k', h => by simp only [ckEq, decide_eq_true_eq] at h; rw [h]
  | .bool, .bool, _ => rfl
  | .str, .str, _ => rfl
  | .flt, .flt, _ => rfl
  | .cpx, .cpx, _ => rfl
  | .int _, .flt, h => by simp [ckEq] at h
  | .int _, .cpx, h => by simp [ckEq] at h
  | .bool, .flt, h => by simp [ckEq] at h
  | .bool, .cpx, h => by simp [ckEq] at h
  | .str, .flt, h => by simp [ckEq] at h
  | .str, .cpx, h => by simp [ckEq] at h
  | .flt, .int _, h => by simp [ckEq] at h
  | .flt, .bool, h => by simp [ckEq] at h
  | .flt, .str, h => by simp [ckEq] at h
  | .flt, .cpx, h => by simp [ckEq] at h
  | .flt, .sl _, h => by simp [ckEq] at h
  | .flt, .other, h => by simp [ckEq] at h
  | .cpx, .int _, h => by simp [ckEq] at h
  | .cpx, .bool, h => by simp [ckEq] at h
  | .cpx, .str, h => by simp [ckEq] at h
  | .cpx, .flt, h => by simp [ckEq] at h
  | .cpx, .sl _, h => by simp [ckEq] at h
  | .cpx, .other, h => by simp [ckEq] at h
  | .sl _, .flt, h => by simp [ckEq] at h
  | .sl _, .cpx, h => by simp [ckEq] at h
  | .other, .flt, h => by simp [ckEq] at h
  | .other, .cpx, h => by simp [ckEq] at h
  | .other, .other, _ => rfl
  | .sl a, .sl b, h => by rw [cksEq_eq a b (by simpa [ckEq] using h)]
  | .int _, .bool, h => by simp [ckEq] at h
  | .int _, .str, h => by simp [ckEq] at h
  | .int _, .sl _, h => by simp [ckEq] at h
  | .int _, .other, h => by simp [ckEq] at h
  | .bool, .int _, h => by simp [ckEq] at h
  | .bool, .str, h => by simp [ckEq] at h
  | .bool, .sl _, h => by simp [ckEq] at h
  | .bool, .other, h => by simp [ckEq] at h
  | .str, .int _, h => by simp [ckEq] at h
  | .str, .bool, h => by simp [ckEq] at h
  | .str, .sl _, h => by simp [ckEq] at h
  | .str, .other, h => by simp [ckEq] at h
  | .sl _, .int _, h => by simp [ckEq] at h
  | .sl _, .bool, h => by simp [ckEq] at h
  | .sl _, .str, h => by simp [ckEq] at h
  | .sl _, .other, h => by simp [ckEq] at h
  | .other, .int _, h => by simp [ckEq] at h
  | .other, .bool, h => by simp [ckEq] at h
  | .other, .str, h => by simp [ckEq] at h
  | .other, .sl _, h => by simp [ckEq] at h
theorem cksEq_eq : ∀ a b, cksEq a b = true → a = b
  | [], [], _ => rfl
  | a :: r, b :: s, h => by
    simp only [cksEq, Bool.and_eq_true] at h
    rw [ckEq_eq a b h.1, cksEq_eq r s h.2]
  | [], _ :: _, h => by simp [cksEq] at h
  | _ :: _, [], h => by simp [cksEq] at h
end

/-- One cell. -/
theorem oneB_one {E : Env} {mm : List (Nat × Chunk)} {w : World} {x : Value} {v : SV} (hch : ∀ c, ChR E (lkO mm) w c (lkO mm c)) (h : CV E (lkO mm) w x v) (hb : oneB mm v = true) : x.cells = #[x] ∧ x.oneCell' = true := by
  cases h with
  | conc _ _ h =>
    cases h
    case oep b ks l i o q1 q2 =>
      cases b with
      | false => rw [q1 rfl]; exact ⟨rfl, rfl⟩
      | true => have q3 := q2 rfl; cases q3; exact ⟨rfl, rfl⟩
    all_goals first | exact ⟨rfl, rfl⟩ | (simp [oneB] at hb)
  | agg => simp [oneB] at hb
  | tup => simp [oneB] at hb
  | fn => exact ⟨rfl, rfl⟩
  | ptr => exact ⟨rfl, rfl⟩
  | ptx => exact ⟨rfl, rfl⟩
  | mpp => exact ⟨rfl, rfl⟩
  | itp => exact ⟨rfl, rfl⟩
  | rptr => simp [oneB] at hb
  | otl => simp [oneB] at hb
  | osl _ c ver v h1 h2 h3 =>
    simp only [oneB] at hb
    have hc := hch c
    cases hm : lkO mm c with
    | none => rw [hm] at hb; simp at hb
    | some ch =>
      rw [hm] at hb h1 hc
      cases ch with
      | box => simp at hb
      | gh => simp at hb
      | mp => simp at hb
      | it => simp at hb
      | row v' e ks l =>
        simp only [beqN, decide_eq_true_eq] at hb
        simp only [verOf, Option.some.injEq] at h1
        have e1 := h3 (by omega)
        obtain ⟨ad, cap, h⟩ := RowR.isSlice hc
        rw [e1, h]; exact ⟨rfl, rfl⟩
      | froz v' ks l =>
        simp only [beqN, decide_eq_true_eq] at hb
        simp only [verOf, Option.some.injEq] at h1
        have e1 := h3 (by omega)
        have hc' : Conc E.I w x (.sl ks l) := by rw [e1]; exact hc
        cases hc' with
        | sl0 => exact ⟨rfl, rfl⟩
        | sl => exact ⟨rfl, rfl⟩

theorem getD_one (x y : Value) (i : Nat) : (#[x] : Array Value).getD i y = if i = 0 then x else y := by
  cases i <;> simp

/-- A value's cells. -/
theorem cells_cv {E : Env} {mm : List (Nat × Chunk)} {w : World} {x : Value} {v : SV} (hch : ∀ c, ChR E (lkO mm) w c (lkO mm c)) (h : CV E (lkO mm) w x v) (hb : cellsB mm v = true) :
    x.cells.size = v.cells.length ∧ ∀ i, CV E (lkO mm) w (x.cells.getD i undef) (v.cells.getD i .any) := by
  by_cases hv : ∃ cs, v = .agg cs
  · obtain ⟨cs, rfl⟩ := hv
    obtain ⟨xs, rfl, h1, h2⟩ := h.inv_agg
    exact ⟨h1, h2⟩
  · have h1 : oneB mm v = true := by
      cases v <;> first | exact hb | (exact absurd ⟨_, rfl⟩ hv)
    have h2 : v.cells = [v] := by
      cases v <;> first | rfl | (exact absurd ⟨_, rfl⟩ hv)
    obtain ⟨h3, _⟩ := oneB_one hch h h1
    rw [h2, h3]
    refine ⟨rfl, fun i => ?_⟩
    rw [getD_one]
    cases i with
    | zero => simpa using h
    | succ i => simpa using CV.conc _ _ (Conc.any _)

theorem oneL_one {E : Env} {mm : List (Nat × Chunk)} {w : World} (hch : ∀ c, ChR E (lkO mm) w c (lkO mm c)) : ∀ (cs : List SV) (xs : List Value), xs.length = cs.length → oneL mm cs = true → (∀ i, CV E (lkO mm) w (xs.getD i undef) (cs.getD i .any)) → ∀ v ∈ xs, v.oneCell' = true
  | [], [], _, _, _ => fun v hv => by cases hv
  | c :: cs, x :: xs, hl, ho, h => by
    simp only [oneL, Bool.and_eq_true] at ho
    intro v hv
    rcases List.mem_cons.1 hv with rfl | hv
    · exact (oneB_one hch (by simpa using h 0) ho.1).2
    · exact oneL_one hch cs xs (by simpa using hl) ho.2 (fun i => by simpa using h (i + 1)) v hv
  | [], _ :: _, hl, _, _ => by simp at hl
  | _ :: _, [], hl, _, _ => by simp at hl

section
variable {cx : Cx} {P : Program} [Laid P] {B : Nat} {M I0 : Nat → Prop} {G : Nat → Value} {w0 : World} {E : Env} {s : St} {a : Act} {w : World} {o : Oper} {K : Act → World → Prop} {Q : Exit → Act → World → Prop}

theorem dOk_lt (hd : dOk cx o.dst = true) : ∀ k, o.dst = some k → k < cx.nt := by
  intro k hk
  rw [hk] at hd
  simpa [dOk, Nat.blt_eq] using hd

/-- A value, in the very world. -/
theorem op_val (h : Rel P cx.nt B M I0 G w0 E s a w) (hd : dOk cx o.dst = true) {x : Value} {v : SV} (hrun : (execOp a.eval o).run P w = .ok (.value x) w) (hx : CV E (lkO s.mem) w x v)
    (hK : ∀ E' a' w', Rel P cx.nt B M I0 G w0 E' (upd s o.dst v []) a' w' → K a' w') : Oper.wp P o a w K Q := by
  unfold Oper.wp
  rw [hrun]
  exact hK E _ w (h.val (dOk_lt hd) hx)

/-- What is shown of an operation. -/
def Sound (cx : Cx) (P : Program) [Laid P] (o : Oper) : Prop :=
  ∀ (B : Nat) (M I0 : Nat → Prop) (G : Nat → Value) (w0 : World) (E : Env) (s : St) (a : Act) (w : World) (K : Act → World → Prop) (Q : Exit → Act → World → Prop),
    Rel P cx.nt B M I0 G w0 E s a w → dOk cx o.dst = true → obH (opx cx s.mem (ev s.tm) o).ob →
    (∀ E' a' w', Rel P cx.nt B M I0 G w0 E' (upd s o.dst (opx cx s.mem (ev s.tm) o).v (opx cx s.mem (ev s.tm) o).ch) a' w' → K a' w') → Oper.wp P o a w K Q

theorem sound_move {y : Operand} (ho : o.op = .move y) : Sound cx P o := by
  intro B M I0 G w0 E s a w K Q h hd hob hK
  have e : opx cx s.mem (ev s.tm) o = .val (ev s.tm y) := by simp [opx, ho, opE]
  rw [e] at hK
  exact op_val h hd (x := a.eval y) (by simp [execOp, ho]) (h.eval y) hK

theorem sound_assign {y : Operand} (ho : o.op = .assign y) : Sound cx P o := by
  intro B M I0 G w0 E s a w K Q h hd hob hK
  have e : opx cx s.mem (ev s.tm) o = .val (ev s.tm y) := by simp [opx, ho, opE]
  rw [e] at hK
  exact op_val h hd (x := a.eval y) (by simp [execOp, ho]) (h.eval y) hK

theorem bOf_cv {m : Nat → Option Chunk} {x : Value} {v : SV} {p : Bool} (h : CV E m w x v) (hb : bOf v = some p) : x = .bool p := by
  cases v <;> simp only [bOf] at hb <;> first | (cases hb; done) | skip
  · cases hb; exact h.inv_bool
  · cases hb; exact h.inv_tt
  · cases hb; exact h.inv_ff

theorem sound_pick {c x y : Operand} (ho : o.op = .pick c x y) : Sound cx P o := by
  intro B M I0 G w0 E s a w K Q h hd hob hK
  have e : opx cx s.mem (ev s.tm) o = opE cx s.mem (ev s.tm) o.dst (.pick c x y) := by simp [opx, ho]
  rw [e] at hob hK
  simp only [opE] at hob hK
  have hc := h.eval c
  split at hob
  · rename_i ht; rw [ht] at hc hK
    exact op_val h hd (x := a.eval x) (by simp [execOp, ho, hc.inv_tt, asBool]) (h.eval x) hK
  · rename_i ht; rw [ht] at hc hK
    exact op_val h hd (x := a.eval y) (by simp [execOp, ho, hc.inv_ff, asBool]) (h.eval y) hK
  · rename_i b ht
    rw [ht] at hc hK
    cases hp : bOf (ev s.tm x) with
    | none => simp only [hp] at hob; exact hob.elim
    | some p =>
      cases hq : bOf (ev s.tm y) with
      | none => simp only [hp, hq] at hob; exact hob.elim
      | some q =>
        simp only [hp, hq] at hK
        have h1 := bOf_cv (h.eval x) hp
        have h2 := bOf_cv (h.eval y) hq
        refine op_val h hd (x := .bool (cond b p q)) ?_ (.conc _ _ (.bool _)) hK
        cases b <;> simp [execOp, ho, hc.inv_bool, asBool, h1, h2]
  · exact hob.elim

theorem tyRun (hP : CxOk P cx) {t : Nat} {L : TyL} (ht : tyOf cx t = some L) : TyOk P t L := hP.ty t L ht

theorem run_info {t : Nat} {inf : TypeInfo} (h : P.info? t = some inf) (w : World) : (typeInfo t).run P w = .ok inf w := by
  simp [typeInfo, h]
theorem run_size {t : Nat} {inf : TypeInfo} (h : P.info? t = some inf) (w : World) : (sizeOf t).run P w = .ok inf.size w := by
  simp [sizeOf, run_info h]
theorem run_zero {t : Nat} {inf : TypeInfo} {z : Value} (h : P.info? t = some inf) (hz : inf.zero = some z) (w : World) : (zeroValue t).run P w = .ok z w := by
  simp [zeroValue, run_info h, hz]
theorem run_newRow' (e : Nat) (cells : Array Value) (w : World) : (newRow e cells).run P w = .ok ⟨w.heap.size, 0, none⟩ (w.alloc (.cells cells e)) := by
  simp [newRow]

/-- A new variable. -/
theorem op_box (h : Rel P cx.nt B M I0 G w0 E s a w) (hd : dOk cx o.dst = true) {d kk t : Nat} (hdst : o.dst = some d) (hfree : lkO s.mem kk = none) {xs : Array Value} {cs : List SV}
    (hrun : (execOp a.eval o).run P w = .ok (.value (.pointer (some ⟨w.heap.size, 0, none⟩))) (w.alloc (.cells xs t))) (hs : xs.size = cs.length) (hx : ∀ i, CV E (lkO s.mem) w (xs.getD i undef) (cs.getD i .any))
    (hK : ∀ E' a' w', Rel P cx.nt B M I0 G w0 E' (upd s o.dst (.ptr kk 0) [(kk, .box t cs)]) a' w' → K a' w') : Oper.wp P o a w K Q := by
  unfold Oper.wp
  rw [hrun]
  refine hK (E.withBlock kk w.heap.size (.pointer (some ⟨w.heap.size, 0, none⟩))) _ _ ?_
  rw [hdst]
  refine h.alloc (dOk_lt hd d hdst) hfree rfl fun E' hE' hm => ?_
  have hl : lkO ([(kk, Chunk.box t cs)] ++ s.mem) kk = some (.box t cs) := by rw [List.singleton_append, lkO_cons, if_pos rfl]
  exact ⟨.ptr kk 0 w.heap.size t cs hl (by rw [hE']; simp [Env.withBlock]), w.heap.size, xs, by rw [hE']; simp [Env.withBlock], heap_new w _, hs, fun i => hm _ _ (hx i)⟩

theorem sound_alloc (hP : CxOk P cx) {t : Nat} (ho : o.op = .alloc t) : Sound cx P o := by
  intro B M I0 G w0 E s a w K Q h hd hob hK
  have e : opx cx s.mem (ev s.tm) o = opE cx s.mem (ev s.tm) o.dst (.alloc t) := by simp [opx, ho]
  rw [e] at hob hK
  simp only [opE] at hob hK
  split at hob
  · rename_i d L hdst ht
    rw [ht] at hK
    split at hob
    · rename_i hfree
      simp only [hdst, hfree] at hK
      obtain ⟨inf, z, h1, h2, h3, h4, h5, h6, h7⟩ := (tyRun hP ht).info
      exact op_box (t := t) h hd (xs := z.cells) (cs := L.zero) hdst hfree (by simp [execOp, ho, Instr.alloc, run_zero h1 h4, newVar, run_newRow']) (by omega) (fun i => .conc _ _ (h7 _ _ i)) (by rw [hdst]; exact hK)
    · exact hob.elim
  · exact hob.elim

theorem sound_box {t : Nat} {y : Operand} (ho : o.op = .box t y) : Sound cx P o := by
  intro B M I0 G w0 E s a w K Q h hd hob hK
  have e : opx cx s.mem (ev s.tm) o = opE cx s.mem (ev s.tm) o.dst (.box t y) := by simp [opx, ho]
  rw [e] at hob hK
  simp only [opE] at hob hK
  split at hob
  · rename_i d hdst
    simp only [hdst] at hK
    split at hob
    · rename_i hfree hc
      simp only [hfree, hc] at hK
      obtain ⟨h1, h2⟩ := cells_cv h.ch (h.eval y) hc
      exact op_box (t := t) h hd (xs := (a.eval y).cells) (cs := (ev s.tm y).cells) hdst hfree (by simp [execOp, ho, Instr.box, newVar, run_newRow']) h1 h2 (by rw [hdst]; exact hK)
    · exact hob.elim
  · exact hob.elim
end
end Go.Rx

