/- The framework, part 9: arithmetic and comparisons. -/
import Derived.Test.YtkmiakgpkgmcbaaFw8
import Derived.Laws.Cover3
namespace Go.Rx
set_option linter.unusedSectionVars false
open Go.RowKit

section
variable {cx : Cx} {P : Program} [Laid P] {B : Nat} {M I0 : Nat → Prop} {G : Nat → Value} {w0 : World} {E : Env} {s : St} {a : Act} {w : World} {o : Oper} {K : Act → World → Prop} {Q : Exit → Act → World → Prop}

theorem run_ar {op : BinOp} {k : IntKind} {x y : Int} (t : Nat) (hob : obH (arOb op y)) (w : World) : ∃ v, (binOp op t (.int k x) (.int k y)).run P w = .ok v w ∧ ∀ (E : Env) (m : Nat → Option Chunk), CV E m w v (ar op k x y) := by
  cases op <;> simp only [arOb, obH] at hob <;> first | exact hob.elim | skip
  case add => exact ⟨.int k (k.wrap (x + y)), by simp [binOp, Op.intArith], fun E m => .conc _ _ (.int _ _)⟩
  case sub => exact ⟨.int k (k.wrap (x - y)), by simp [binOp, Op.intArith], fun E m => .conc _ _ (.int _ _)⟩
  case mul => exact ⟨.int k (k.wrap (x * y)), by simp [binOp, Op.intArith], fun E m => .conc _ _ (.int _ _)⟩
  case quo => exact ⟨.int k (k.wrap (x.tdiv y)), by simp [binOp, Op.intDiv, hob.out], fun E m => .conc _ _ (.int _ _)⟩
  case rem => exact ⟨.int k (x.tmod y), by simp [binOp, Op.intDiv, hob.out], fun E m => .conc _ _ (.int _ _)⟩
  case eql => exact ⟨.bool (x == y), by simp [binOp, Op.intCmp], fun E m => .conc _ _ (.bool _)⟩
  case neq => exact ⟨.bool (x != y), by simp [binOp, Op.intCmp], fun E m => .conc _ _ (.bool _)⟩
  case lss => exact ⟨.bool (decide (x < y)), by simp [binOp, Op.intCmp], fun E m => .conc _ _ (.bool _)⟩
  case leq => exact ⟨.bool (decide (x ≤ y)), by simp [binOp, Op.intCmp], fun E m => .conc _ _ (.bool _)⟩
  case gtr => exact ⟨.bool (decide (x > y)), by simp [binOp, Op.intCmp], fun E m => .conc _ _ (.bool _)⟩
  case geq => exact ⟨.bool (decide (x ≥ y)), by simp [binOp, Op.intCmp], fun E m => .conc _ _ (.bool _)⟩
  case and => exact ⟨.int k (andV k x y), by simp [binOp, Op.intBits, andV], fun E m => .conc _ _ (.int _ _)⟩
  case or => exact ⟨.int k (orV k x y), by simp [binOp, Op.intBits, orV], fun E m => .conc _ _ (.int _ _)⟩
  case xor => exact ⟨.int k (xorV k x y), by simp [binOp, Op.intBits, xorV], fun E m => .conc _ _ (.int _ _)⟩
  case shl => exact ⟨.int k (shlV k x y), by have := hob.out; simp [binOp, Op.shift, shlV, show ¬ y < 0 by omega], fun E m => .conc _ _ (.int _ _)⟩
  case shr => exact ⟨.int k (shrV k x y), by have := hob.out; simp [binOp, Op.shift, shrV, show ¬ y < 0 by omega], fun E m => .conc _ _ (.int _ _)⟩

/-- A shift: the count may be of another kind. -/
theorem run_sh {op : BinOp} {k k' : IntKind} {x y : Int} (t : Nat) (ho : isSh op = true) (hob : obH (arOb op y)) (w : World) : ∃ v, (binOp op t (.int k x) (.int k' y)).run P w = .ok v w ∧ ∀ (E : Env) (m : Nat → Option Chunk), CV E m w v (ar op k x y) := by
  cases op <;> first | cases ho | skip
  case shl => exact ⟨.int k (shlV k x y), by have := hob.out; simp [binOp, Op.shift, shlV, show ¬ y < 0 by omega], fun E m => .conc _ _ (.int _ _)⟩
  case shr => exact ⟨.int k (shrV k x y), by have := hob.out; simp [binOp, Op.shift, shrV, show ¬ y < 0 by omega], fun E m => .conc _ _ (.int _ _)⟩

theorem eqGuard_plain (op : BinOp) (t : Nat) (x y : Operand) (u v : Value) (hu : ∀ xs, u ≠ .agg xs) (hn : u ≠ .nilIface) (w : World) : (eqGuard op t x y u v).run P w = .ok () w := by
  unfold eqGuard
  cases op <;> simp <;> (cases u <;> simp_all)

/-- Two booleans. -/
theorem eqV_bool {m : Nat → Option Chunk} {x y : Value} {u v : SV} {r : Bool} (hx : CV E m w x u) (hy : CV E m w y v) (h : eqV u v = some r) : ∃ p q, x = .bool p ∧ y = .bool q ∧ r = (p == q) := by
  cases u <;> cases v <;> simp only [eqV, Option.some.injEq, reduceCtorEq] at h <;> subst h
  · exact ⟨_, _, hx.inv_bool, hy.inv_bool, rfl⟩
  · exact ⟨_, _, hx.inv_bool, hy.inv_tt, by simp⟩
  · exact ⟨_, _, hx.inv_bool, hy.inv_ff, by simp⟩
  · exact ⟨_, _, hx.inv_tt, hy.inv_bool, by simp⟩
  · exact ⟨_, _, hx.inv_tt, hy.inv_tt, rfl⟩
  · exact ⟨_, _, hx.inv_tt, hy.inv_ff, rfl⟩
  · exact ⟨_, _, hx.inv_ff, hy.inv_bool, by simp⟩
  · exact ⟨_, _, hx.inv_ff, hy.inv_tt, rfl⟩
  · exact ⟨_, _, hx.inv_ff, hy.inv_ff, rfl⟩

theorem bytes_beq (p q : ByteArray) : (p.toList == q.toList) = decide (p.data.toList = q.data.toList) := by
  rw [ByteArray.toList_eq, ByteArray.toList_eq]
  by_cases h : p.data.toList = q.data.toList
  · simp [h]
  · rw [decide_eq_false h]
    simpa using fun e => h (by rw [e])

/-- Two cells of a kind. -/
theorem eqK_run {m : Nat → Option Chunk} {x y : Value} {u v : SV} {r : Bool} {k : CK} {t : Nat} (d : Nat) (hx : CV E m w x u) (hy : CV E m w y v) (hk : CkOk P t k) (h : eqK k u v = some r) : (Op.equalIn (d + 1) t x y).run P w = .ok r w := by
  cases k with
  | int k =>
    cases u <;> cases v <;> simp only [eqK, reduceCtorEq] at h
    rename_i k1 a1 k2 a2
    cases hd : decide (k1 = k2) with
    | false => simp only [hd] at h; cases h
    | true =>
      simp only [hd, Option.some.injEq] at h
      have := of_decide_eq_true hd
      subst this
      rw [hx.inv_int, hy.inv_int, run_equalIn_int w d t k1 k a1 a2 hk, ← h]
      rfl
  | bool =>
    have h' : eqV u v = some r := by
      cases u <;> cases v <;> first | exact h | (simp [eqK] at h)
    obtain ⟨p, q, rfl, rfl, rfl⟩ := eqV_bool hx hy h'
    rw [run_equalIn_bool' w d t p q hk]
  | str =>
    cases u <;> cases v <;> simp only [eqK, reduceCtorEq, Option.some.injEq] at h
    obtain ⟨p, rfl, e1⟩ := hx.inv_str
    obtain ⟨q, rfl, e2⟩ := hy.inv_str
    rw [run_equalIn_string w d t p q hk, bytes_beq, e1, e2, ← h]
  | sl ks => cases hk
  | other => cases hk
  | flt => cases hk
  | cpx => cases hk

theorem eqVs_cons {k : CK} {ks : List CK} {x y : SV} {xs ys : List SV} {r : Bool} (h : eqVs (k :: ks) (x :: xs) (y :: ys) = some r) : ∃ p q, eqK k x y = some p ∧ eqVs ks xs ys = some q ∧ r = (p && q) := by
  unfold eqVs at h
  split at h
  · rename_i e _ _
    cases e
  · rename_i k' x' y' e1 e2 e3
    cases e1; cases e2; cases e3
    exact ⟨r, true, h, rfl, by simp⟩
  · rename_i k' ks' x' xs' y' ys' _ e1 e2 e3
    cases e1; cases e2; cases e3
    cases h1 : eqK k x y <;> cases h2 : eqVs ks xs ys <;> simp only [h1, h2, reduceCtorEq, Option.some.injEq] at h
    exact ⟨_, _, rfl, rfl, h.symm⟩
  · cases h

theorem eqVs_len : ∀ {ks : List CK} {xs ys : List SV} {r : Bool}, eqVs ks xs ys = some r → xs.length = ks.length ∧ ys.length = ks.length
  | [], xs, ys, r, h => by cases xs <;> cases ys <;> simp [eqVs] at h; exact ⟨rfl, rfl⟩
  | k :: ks, [], ys, r, h => by simp [eqVs] at h
  | k :: ks, x :: xs, [], r, h => by cases xs <;> simp [eqVs] at h
  | k :: ks, x :: xs, y :: ys, r, h => by
    obtain ⟨p, q, h1, h2, _⟩ := eqVs_cons h
    have := eqVs_len h2
    exact ⟨by simp [this.1], by simp [this.2]⟩

theorem part_scalar {t : Nat} {k : CK} (hk : CkOk P t k) {xs : Array Value} {i : Nat} (hi : i < xs.size) (w : World) : (part t xs i).run P w = .ok (xs.getD i undef) w := by
  have h1 : (isAgg t).run P w = .ok false w := by
    unfold isAgg
    cases k with
    | int k => rw [Sem.run_bind, run_underlying hk]; rfl
    | bool => rw [Sem.run_bind, run_underlying hk]; rfl
    | str => rw [Sem.run_bind, run_underlying hk]; rfl
    | sl => cases hk
    | other => cases hk
    | flt => cases hk
    | cpx => cases hk
  unfold part
  rw [Sem.run_bind, h1, Result.andThen_ok, if_neg (by simp)]
  rw [Array.getElem?_eq_getElem hi]
  simp [Array.getD_eq_getD_getElem?, Array.getElem?_eq_getElem hi]

/-- Two structs, field by field. -/
theorem eqFields_run (d : Nat) {m : Nat → Option Chunk} (xs ys : Array Value) : ∀ (fs : List Field) (ks : List CK) (us vs : List SV) (i : Nat) (r : Bool), fs.length = ks.length → i + fs.length = xs.size → i + fs.length = ys.size →
    (∀ (j : Nat) (f : Field), fs[j]? = some f → f.name ≠ "_" ∧ f.offset = i + j ∧ CkOk P f.type (ks.getD j .other)) → (∀ j, CV E m w (xs.getD (i + j) undef) (us.getD j .any)) → (∀ j, CV E m w (ys.getD (i + j) undef) (vs.getD j .any)) →
    eqVs ks us vs = some r → (Op.eqFields (d + 1) xs ys fs).run P w = .ok r w
  | [], ks, us, vs, i, r, hl, _, _, _, _, _, h => by
    have : ks = [] := List.eq_nil_of_length_eq_zero hl.symm
    subst this
    cases us <;> cases vs <;> simp only [eqVs, Option.some.injEq, reduceCtorEq] at h
    subst h
    simp [Op.eqFields]
  | f :: fs, ks, us, vs, i, r, hl, hx, hy, hf, hcx, hcy, h => by
    cases ks with
    | nil => simp at hl
    | cons k ks =>
      obtain ⟨f1, f2, f3⟩ := hf 0 f rfl
      cases us with
      | nil => simp [eqVs] at h
      | cons u us =>
        cases vs with
        | nil => cases us <;> simp [eqVs] at h
        | cons v vs =>
          obtain ⟨p, q, h1, h2, rfl⟩ := eqVs_cons h
          simp only [List.length_cons] at hl hx hy
          have e1 := eqK_run (P := P) (w := w) (t := f.type) d (by simpa only [Nat.add_zero, List.getD_cons_zero] using hcx 0) (by simpa only [Nat.add_zero, List.getD_cons_zero] using hcy 0) (by simpa using f3) h1
          have ih := eqFields_run d xs ys fs ks us vs (i + 1) q (by omega) (by omega) (by omega) (fun j f' hj => by
            have := hf (j + 1) f' (by simpa using hj)
            exact ⟨this.1, by omega, by simpa using this.2.2⟩) (fun j => by have := hcx (j + 1); rw [show i + 1 + j = i + (j + 1) by omega]; simpa only [List.getD_cons_succ] using this) (fun j => by have := hcy (j + 1); rw [show i + 1 + j = i + (j + 1) by omega]; simpa only [List.getD_cons_succ] using this) h2
          have e2 : f.offset = i := by simpa using f2
          have f3' : CkOk P f.type k := by simpa using f3
          simp only [Op.eqFields, if_pos f1, Sem.run_bind, e2]
          rw [part_scalar f3' (by omega), Result.andThen_ok, part_scalar f3' (by omega), Result.andThen_ok, e1, Result.andThen_ok]
          cases p with
          | false => simp
          | true => simpa using ih

theorem fB_some {op : BinOp} {x y r : Nat} (h : floatBits op .f64 x y = some r) : fB op x y = r := by unfold fB; rw [h]; rfl
theorem fOk_some {op : BinOp} {x y : Nat} (h : fOk op x y) : floatBits op .f64 x y = some (fB op x y) := by
  obtain ⟨r, hr⟩ := Option.isSome_iff_exists.1 h
  rw [fB_some hr]; exact hr
theorem fltBin_run {op : BinOp} {a b : Nat} (t : Nat) (hob : obH (fltBin op a b).ob) (w : World) : ∃ v, (binOp op t (.float .f64 a) (.float .f64 b)).run P w = .ok v w ∧ ∀ (E : Env) (m : Nat → Option Chunk), CV E m w v (fltBin op a b).v := by
  cases op <;> first | exact hob.elim | skip
  · exact ⟨_, run_float_arith w .add t .f64 a b _ (fOk_some hob.out), fun _ _ => .conc _ _ (.flt _)⟩
  · exact ⟨_, run_float_arith w .sub t .f64 a b _ (fOk_some hob.out), fun _ _ => .conc _ _ (.flt _)⟩
  · exact ⟨_, run_float_arith w .mul t .f64 a b _ (fOk_some hob.out), fun _ _ => .conc _ _ (.flt _)⟩
  · exact ⟨_, run_float_arith w .quo t .f64 a b _ (fOk_some hob.out), fun _ _ => .conc _ _ (.flt _)⟩
  all_goals exact ⟨_, by simp [binOp_float_cmp_eql, binOp_float_cmp_neq, binOp_float_cmp_lss, binOp_float_cmp_leq, binOp_float_cmp_gtr, binOp_float_cmp_geq]; rfl, fun _ _ => .conc _ _ (.bool _)⟩
theorem cpxBin_run {op : BinOp} {a b c d : Nat} (t : Nat) (hob : obH (cpxBin op a b c d).ob) (w : World) : ∃ v, (binOp op t (.complex .f64 a b) (.complex .f64 c d)).run P w = .ok v w ∧ ∀ (E : Env) (m : Nat → Option Chunk), CV E m w v (cpxBin op a b c d).v := by
  have sum : ∀ op, (op = .add ∨ op = .sub) → fOk op a c ∧ fOk op b d → (binOp op t (.complex .f64 a b) (.complex .f64 c d)).run P w = .ok (.complex .f64 (fB op a c) (fB op b d)) w := fun op ho h => by
    refine run_complex_sum w op ho t .f64 a b c d _ _ ?_
    unfold cSumBits
    rw [fOk_some h.1, fOk_some h.2]; rfl
  cases op <;> first | exact hob.elim | skip
  · exact ⟨_, sum .add (.inl rfl) hob.out, fun _ _ => .conc _ _ (.cpx _ _)⟩
  · exact ⟨_, sum .sub (.inr rfl) hob.out, fun _ _ => .conc _ _ (.cpx _ _)⟩
  · obtain ⟨r, hr⟩ := Option.isSome_iff_exists.1 hob.out
    refine ⟨.complex .f64 r.1 r.2, run_complex_mul w t a b c d r.1 r.2 hr, fun _ _ => ?_⟩
    show CV _ _ w _ (.cpx (cM a b c d).1 (cM a b c d).2)
    have : cM a b c d = r := by unfold cM; rw [hr]; rfl
    rw [this]; exact .conc _ _ (.cpx _ _)
  · exact ⟨_, run_eql_complex w t .f64 a b c d, fun _ _ => .conc _ _ (.bool _)⟩
  · exact ⟨_, run_neq_complex w t .f64 a b c d, fun _ _ => .conc _ _ (.bool _)⟩
theorem sound_binOp (hP : CxOk P cx) {op : BinOp} {t t2 : Nat} {y z : Operand} (ho : o.op = .binOp op t y z t2) : Sound cx P o := by
  intro B M I0 G w0 E s a w K Q h hd hob hK
  have e : opx cx s.mem (ev s.tm) o = opE cx s.mem (ev s.tm) o.dst (.binOp op t y z t2) := by simp [opx, ho]
  rw [e] at hob hK
  simp only [opE] at hob hK
  have hy := h.eval y
  have hz := h.eval z
  split at hob
  · rename_i k a1 k' a2 e1 e2
    rw [e1] at hy hK
    rw [e2] at hz hK
    simp only at hK
    cases hd' : decide (k = k') || isSh op with
    | false => simp only [hd'] at hob; exact hob.elim
    | true =>
      simp only [hd'] at hob hK
      have hrun : ∃ v, (binOp op t (.int k a1) (.int k' a2)).run P w = .ok v w ∧ ∀ (E : Env) (m : Nat → Option Chunk), CV E m w v (ar op k a1 a2) := by
        rw [Bool.or_eq_true] at hd'
        rcases hd' with hd' | hd'
        · have := of_decide_eq_true hd'
          subst this
          exact run_ar (P := P) (k := k) (x := a1) t hob w
        · exact run_sh t hd' hob w
      obtain ⟨v, hr, hv⟩ := hrun
      refine op_val h hd (x := v) ?_ (hv _ _) hK
      simp only [execOp, ho, hy.inv_int, hz.inv_int, Sem.run_bind]
      rw [eqGuard_plain _ _ _ _ _ _ (by simp) (by simp), Result.andThen_ok, hr]
      rfl
  · rename_i a1 a2 e1 e2
    rw [e1] at hy hK
    rw [e2] at hz hK
    simp only at hK
    obtain ⟨p, hp, e3⟩ := hy.inv_str
    obtain ⟨q, hq, e4⟩ := hz.inv_str
    have run : ∀ {v : Value}, (Op.stringOp op p q).run P w = .ok v w → (op ≠ .shl) → (op ≠ .shr) → (execOp a.eval o).run P w = .ok (.value v) w := fun {v} hv h1 h2 => by
      simp only [execOp, ho, hp, hq, Sem.run_bind]
      rw [eqGuard_plain _ _ _ _ _ _ (by simp) (by simp), Result.andThen_ok]
      have : binOp op t (.string p) (.string q) = Op.stringOp op p q := by cases op <;> first | rfl | exact absurd rfl h1 | exact absurd rfl h2
      rw [this, hv]
      rfl
    split at hob
    · simp only at hK
      have hlen := hob.out
      refine op_val h hd (run (v := .string (p ++ q)) ?_ (by simp) (by simp)) (.conc _ _ (.str _ _ ?_)) hK
      · simp only [Op.stringOp]
        rw [if_neg ?_]
        · rfl
        · have e5 : p.size = a1.length := by rw [← e3]; simp
          have e6 : q.size = a2.length := by rw [← e4]; simp
          rw [e5, e6]
          have : IntKind.max .i64 = 9223372036854775807 := by decide
          rw [this]
          omega
      · rw [ByteArray.data_append]; simp [e3, e4]
    · exact op_val h hd (run (v := .bool (p.toList == q.toList)) (by simp [Op.stringOp]) (by simp) (by simp)) (by rw [bytes_beq, e3, e4]; exact .conc _ _ (.bool _)) hK
    · exact op_val h hd (run (v := .bool (!(p.toList == q.toList))) (by simp [Op.stringOp]) (by simp) (by simp)) (by rw [bytes_beq, e3, e4]; exact .conc _ _ (.bool _)) hK
    · refine op_val h hd (run (v := .bool (Op.bytesLess p.toList q.toList)) (by simp [Op.stringOp]) (by simp) (by simp)) ?_ hK
      rw [ByteArray.toList_eq, ByteArray.toList_eq, e3, e4]
      exact .conc _ _ (.bool _)
    · refine op_val h hd (run (v := .bool (Op.bytesLess p.toList q.toList || p.toList == q.toList)) (by simp [Op.stringOp]) (by simp) (by simp)) ?_ hK
      rw [bytes_beq, ByteArray.toList_eq, ByteArray.toList_eq, e3, e4]
      exact .conc _ _ (.bool _)
    · refine op_val h hd (run (v := .bool (!(Op.bytesLess p.toList q.toList || p.toList == q.toList))) (by simp [Op.stringOp]) (by simp) (by simp)) ?_ hK
      rw [bytes_beq, ByteArray.toList_eq, ByteArray.toList_eq, e3, e4]
      exact .conc _ _ (.bool _)
    · refine op_val h hd (run (v := .bool (!Op.bytesLess p.toList q.toList)) (by simp [Op.stringOp]) (by simp) (by simp)) ?_ hK
      rw [ByteArray.toList_eq, ByteArray.toList_eq, e3, e4]
      exact .conc _ _ (.bool _)
    · exact hob.elim
  · rename_i a1 a2 e1 e2
    rw [e1] at hy hK
    rw [e2] at hz hK
    simp only at hK
    obtain ⟨v, hr, hv⟩ := fltBin_run (P := P) t hob w
    rw [show (fltBin op a1 a2).ch = [] by cases op <;> rfl] at hK
    refine op_val h hd (x := v) ?_ (hv _ _) hK
    simp only [execOp, ho, hy.inv_flt, hz.inv_flt, Sem.run_bind]
    rw [eqGuard_plain _ _ _ _ _ _ (by simp) (by simp), Result.andThen_ok, hr]
    rfl
  · rename_i a1 a2 a3 a4 e1 e2
    rw [e1] at hy hK
    rw [e2] at hz hK
    simp only at hK
    obtain ⟨v, hr, hv⟩ := cpxBin_run (P := P) t hob w
    rw [show (cpxBin op a1 a2 a3 a4).ch = [] by cases op <;> rfl] at hK
    refine op_val h hd (x := v) ?_ (hv _ _) hK
    simp only [execOp, ho, hy.inv_cpx, hz.inv_cpx, Sem.run_bind]
    rw [eqGuard_plain _ _ _ _ _ _ (by simp) (by simp), Result.andThen_ok, hr]
    rfl
  · rename_i x1 x2 ne1 ne2 ne3 ne4
    split at hK
    · rename_i e1 e2; exact (ne1 _ _ _ _ e1 e2).elim
    · rename_i e1 e2; exact (ne2 _ _ e1 e2).elim
    · rename_i e1 e2; exact (ne3 _ _ e1 e2).elim
    · rename_i e1 e2; exact (ne4 _ _ _ _ e1 e2).elim
    clear ne1 ne2 ne3 ne4
    cases ht : tyOf cx t with
    | none => rw [ht] at hob; exact hob.elim
    | some L =>
      have hL := tyRun hP ht
      obtain ⟨d, h1, h2⟩ := hL.desc
      simp only [ht] at hob hK
      cases hk : L.k <;> simp only [hk] at hob hK h2 <;> try exact hob.elim
      · -- bool
        have := TkOk_bool h2
        subst this
        have key : ∀ r, eqV (ev s.tm y) (ev s.tm z) = some r → (∀ {neg : Bool}, op = (if neg then .neq else .eql) → (execOp a.eval o).run P w = .ok (.value (.bool (if neg then !r else r))) w) := by
          intro r hr neg hop
          obtain ⟨p, q, e1, e2, e3⟩ := eqV_bool hy hz hr
          subst e3
          simp only [execOp, ho, e1, e2, Sem.run_bind]
          rw [eqGuard_plain _ _ _ _ _ _ (by simp) (by simp), Result.andThen_ok]
          cases neg with
          | false =>
            simp only [hop, Bool.false_eq_true, if_false, binOp, Sem.run_bind, Op.equal]
            rw [show Op.maxDepth = 9999 + 1 from rfl, run_equalIn_bool' w 9999 t p q h1]
            rfl
          | true =>
            simp only [hop, if_true, binOp, Sem.run_bind, Op.equal]
            rw [show Op.maxDepth = 9999 + 1 from rfl, run_equalIn_bool' w 9999 t p q h1]
            rfl
        split at hob
        · rename_i r hr
          simp only [hr] at hK
          exact op_val h hd (key r hr (neg := false) rfl) (.conc _ _ (.bool _)) hK
        · rename_i r hr
          simp only [hr] at hK
          exact op_val h hd (key r hr (neg := true) rfl) (.conc _ _ (.bool _)) hK
        · exact hob.elim
      · -- a struct
        rename_i fl
        have struct : ∀ {xs ys : List SV} {r : Bool}, L.eq = true → eqVs L.ks xs ys = some r → ev s.tm y = .agg xs → ev s.tm z = .agg ys → ∀ {neg : Bool}, op = (if neg then .neq else .eql) →
            (execOp a.eval o).run P w = .ok (.value (.bool (if neg then !r else r))) w := by
          intro xs ys r heq hr e1 e2 neg hop
          rw [e1] at hy
          rw [e2] at hz
          obtain ⟨p, p1, p2, p3⟩ := hy.inv_agg
          obtain ⟨q, q1, q2, q3⟩ := hz.inv_agg
          obtain ⟨fs, f1, f2, f3, f4, f5⟩ := hL.eq heq
          have hfo : P.fieldsOf t = fs := by simp [Program.fieldsOf, f1]
          have hlx := eqVs_len hr
          have hrun : (Op.equalIn 10000 t (.agg p) (.agg q)).run P w = .ok r w := by
            rw [show (10000 : Nat) = 9999 + 1 from rfl, run_equalIn_struct w 9999 t p q (by rw [hfo]; exact f1) f2, hfo]
            exact eqFields_run 9998 p q fs.toList L.ks xs ys 0 r (by simpa using f4) (by simp; omega) (by simp; omega) (fun j f hj => by
              have := f5 j f (by simpa using hj)
              exact ⟨this.1, by omega, this.2.2⟩) (fun j => by rw [Nat.zero_add]; exact p3 j) (fun j => by rw [Nat.zero_add]; exact q3 j) hr
          simp only [execOp, ho, p1, q1, Sem.run_bind]
          rw [run_eqGuard_agg w op t y z p q f3, Result.andThen_ok]
          cases neg with
          | false =>
            simp only [hop, Bool.false_eq_true, if_false]
            rw [run_eql_struct, hrun]
            rfl
          | true =>
            simp only [hop, if_true]
            rw [run_neq_struct, hrun]
            rfl
        split at hob
        · rename_i xs ys heq e1 e2
          rw [heq, e1, e2] at hK
          simp only at hK
          cases hr : eqVs L.ks xs ys with
          | none => simp only [hr] at hob; exact hob.elim
          | some r =>
            simp only [hr] at hK
            exact op_val h hd (by simpa using struct heq hr e1 e2 (neg := false) rfl) (.conc _ _ (.bool _)) hK
        · rename_i xs ys heq e1 e2
          rw [heq, e1, e2] at hK
          simp only at hK
          cases hr : eqVs L.ks xs ys with
          | none => simp only [hr] at hob; exact hob.elim
          | some r =>
            simp only [hr] at hK
            exact op_val h hd (by simpa using struct heq hr e1 e2 (neg := true) rfl) (.conc _ _ (.bool _)) hK
        · exact hob.elim
      · -- a slice and nil
        rename_i se
        have hd2 := TkOk_sl h2
        subst hd2
        have key : ∀ (u : Option Addr) (len cap : Nat), op = .eql → a.eval y = .slice u len cap → a.eval z = .slice none 0 0 → (execOp a.eval o).run P w = .ok (.value (.bool u.isNone)) w := by
          intro u len cap hop e1 e2
          simp only [execOp, ho, e1, e2, Sem.run_bind]
          rw [eqGuard_plain _ _ _ _ _ _ (by simp) (by simp), Result.andThen_ok]
          simp only [hop]
          have : binOp .eql t (.slice u len cap) (.slice none 0 0) = (do pure (.bool (← Op.equal t (.slice u len cap) (.slice none 0 0)))) := rfl
          rw [this, Sem.run_bind, run_equal_slice_nil w t se u len cap h1]
          rfl
        have ofSl : ∀ {I : Nat → Prop} {x : Value} {ks : List CK} {l : List SV}, Conc I w x (.sl ks l) → ∃ u len cap, x = .slice u len cap ∧ (u.isNone = true → l = []) := fun {I x ks l} hc => by
          generalize hv : SV.sl ks l = v at hc
          cases hc <;> cases hv
          · exact ⟨_, _, _, rfl, fun _ => rfl⟩
          · exact ⟨_, _, _, rfl, fun h => by cases h⟩
        unfold nilCmp at hob hK
        cases op <;> first | exact hob.elim | skip
        cases hvz : ev s.tm z <;> simp only [hvz] at hob hK <;> try exact hob.elim
        rw [hvz] at hz
        cases hvy : ev s.tm y <;> simp only [hvy] at hob hK <;> try exact hob.elim
        · rename_i c ver
          rw [hvy] at hy
          obtain ⟨v', g1, g2⟩ := hy.inv_osl
          have hch := h.ch c
          cases hm : lkO s.mem c with
          | none => simp only [hm] at hob; exact hob.elim
          | some chk =>
            simp only [hm] at hob hK
            rw [hm] at g1 hch
            cases chk <;> simp only at hob hK <;> try exact hob.elim
            · rename_i v2 e2 ks l
              cases hq : Nat.beq v2 ver with
              | false => simp only [hq] at hob; exact hob.elim
              | true =>
                simp only [hq] at hob hK
                have p1 := Nat.eq_of_beq_eq_true hq
                subst p1
                simp only [verOf, Option.some.injEq] at g1
                have hxe := g2 g1
                obtain ⟨_, ⟨_, xs, t3, _⟩ | ⟨z1, _, ad, z3⟩⟩ := hch
                rotate_left
                · exact op_val h hd (key ad 0 0 rfl (hxe.trans z3) hz.inv_nilsl) (.conc _ _ (.nb _ _ fun _ => z1)) hK
                rw [← hxe] at t3
                rcases t3.2 with ⟨q1, q2⟩ | ⟨g, cap, cur, q1, _⟩
                · exact op_val h hd (key none 0 0 rfl q1 hz.inv_nilsl) (.conc _ _ (.nb _ _ fun _ => List.eq_nil_of_length_eq_zero q2)) hK
                · exact op_val h hd (key _ _ _ rfl q1 hz.inv_nilsl) (.conc _ _ (.nb _ _ fun h => by cases h)) hK
            · rename_i v2 ks l
              cases hq : Nat.beq v2 ver with
              | false => simp only [hq] at hob; exact hob.elim
              | true =>
                simp only [hq] at hob hK
                have p1 := Nat.eq_of_beq_eq_true hq
                subst p1
                simp only [verOf, Option.some.injEq] at g1
                have hxe := g2 g1
                have hch : Conc E.I w (E.cv c) (.sl ks l) := hch
                rw [← hxe] at hch
                obtain ⟨u, len, cap, e1, e2⟩ := ofSl hch
                exact op_val h hd (key u len cap rfl e1 hz.inv_nilsl) (.conc _ _ (.nb _ _ e2)) hK
        · rename_i ks l
          rw [hvy] at hy
          obtain ⟨u, len, cap, e1, e2⟩ := ofSl hy.inv_sl
          exact op_val h hd (key u len cap rfl e1 hz.inv_nilsl) (.conc _ _ (.nb _ _ e2)) hK
        · rw [hvy] at hy
          exact op_val h hd (key none 0 0 rfl hy.inv_nilsl hz.inv_nilsl) (.conc _ _ .tt) hK
      · -- a pointer and nil
        rename_i pe
        have hd2 := TkOk_ptr h2
        subst hd2
        have key : ∀ (u v : Option Addr), a.eval y = .pointer u → a.eval z = .pointer v → v = none → ∀ {neg : Bool}, op = (if neg then .neq else .eql) → (execOp a.eval o).run P w = .ok (.value (.bool (if neg then !u.isNone else u.isNone))) w := by
          intro u v e1 e2 e3 neg hop
          subst e3
          simp only [execOp, ho, e1, e2, Sem.run_bind]
          rw [eqGuard_plain _ _ _ _ _ _ (by simp) (by simp), Result.andThen_ok]
          have hq : (Op.equalIn (9999 + 1) t (.pointer u) (.pointer none)).run P w = .ok u.isNone w := by
            rw [run_equalIn_pointer_nil w 9999 t u (by rw [show P.pointee t = pe by simp [Program.pointee, h1]]; exact h1)]
          cases neg with
          | false =>
            simp only [hop, Bool.false_eq_true, if_false]
            have : binOp .eql t (.pointer u) (.pointer none) = (do pure (.bool (← Op.equal t (.pointer u) (.pointer none)))) := by cases u <;> rfl
            rw [this, Sem.run_bind, Op.equal, show Op.maxDepth = 9999 + 1 from rfl, hq]
            rfl
          | true =>
            simp only [hop, if_true]
            have : binOp .neq t (.pointer u) (.pointer none) = (do pure (.bool (!(← Op.equal t (.pointer u) (.pointer none))))) := by cases u <;> rfl
            rw [this, Sem.run_bind, Op.equal, show Op.maxDepth = 9999 + 1 from rfl, hq]
            rfl
        have nil : ∀ n, isNilP (ev s.tm y) = n → n ≠ .any → ∃ u : Option Addr, a.eval y = .pointer u ∧ CV E (lkO s.mem) w (.bool u.isNone) n := fun n hn hne => by
          unfold isNilP at hn
          split at hn
          · rename_i e1
            rw [e1] at hy
            subst hn
            exact ⟨none, hy.inv_nilp, .conc _ _ .tt⟩
          · rename_i e1
            rw [e1] at hy
            subst hn
            obtain ⟨b, p, e3, _⟩ := ep_add hy.inv_ep
            exact ⟨_, e3, .conc _ _ .ff⟩
          · rename_i e1
            rw [e1] at hy
            subst hn
            obtain ⟨b, t', cs, e3, _⟩ := hy.inv_ptr
            exact ⟨_, e3, .conc _ _ .ff⟩
          · rename_i b _ _ _ _ e1
            rw [e1] at hy
            subst hn
            obtain ⟨q1, q2⟩ := oep_inv hy.inv_oep
            cases b with
            | false => exact ⟨none, q1 rfl, .conc _ _ (.bool _)⟩
            | true =>
              obtain ⟨b, p, e3, _⟩ := ep_add (q2 rfl)
              exact ⟨_, e3, .conc _ _ (.bool _)⟩
          · exact absurd hn.symm hne
        have neg : ∀ (n : SV) (b : Bool), CV E (lkO s.mem) w (.bool b) n → CV E (lkO s.mem) w (.bool (!b)) (notV n) := fun n b hn => by
          cases n <;> first | exact .conc _ _ (.any _) | skip
          · have := hn.inv_bool; cases this; exact .conc _ _ (.bool _)
          · have := hn.inv_tt; cases this; exact .conc _ _ .ff
          · have := hn.inv_ff; cases this; exact .conc _ _ .tt
        unfold ptrCmp at hob hK
        split at hob
        · rename_i e2
          rw [e2] at hz
          rw [e2] at hK
          simp only at hK
          cases hne : anyB (isNilP (ev s.tm y)) with
          | true => rw [hne] at hob; exact hob.elim
          | false =>
            rw [hne] at hob hK
            obtain ⟨u, e3, e4⟩ := nil _ rfl (fun h => by rw [h] at hne; cases hne)
            cases op <;> first | exact hob.elim | skip
            · exact op_val h hd (key u none e3 hz.inv_nilp rfl (neg := false) rfl) e4 hK
            · exact op_val h hd (key u none e3 hz.inv_nilp rfl (neg := true) rfl) (neg _ _ e4) hK
        · exact hob.elim
end
end Go.Rx

