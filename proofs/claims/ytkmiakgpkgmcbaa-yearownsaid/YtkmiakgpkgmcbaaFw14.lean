/- The framework, part 14: slices of strings and slices, conversions; all operations. -/
import Derived.Test.YtkmiakgpkgmcbaaFw13
namespace Go.Rx
set_option linter.unusedSectionVars false
open Go.RowKit

section
variable {cx : Cx} {P : Program} [Laid P] {B : Nat} {M I0 : Nat → Prop} {G : Nat → Value} {w0 : World} {E : Env} {s : St} {a : Act} {w : World} {o : Oper} {K : Act → World → Prop} {Q : Exit → Act → World → Prop}

theorem run_bounds (k : Bool) (len cap : Nat) (lo hi : Option Value) (x y : Nat) (hlo : match lo with | none => x = 0 | some v => ∃ kk n, v = .int kk n ∧ 0 ≤ n ∧ n.toNat = x ∧ n ≤ y) (hhi : match hi with | none => y = len | some v => ∃ kk n, v = .int kk n ∧ 0 ≤ n ∧ n.toNat = y ∧ n ≤ cap) (w : World) :
    (Instr.sliceBounds k len cap lo hi none).run P w = .ok (x, y, cap) w := by
  unfold Instr.sliceBounds
  cases lo with
  | none =>
    cases hi with
    | none => simp at hlo hhi; subst hlo hhi; simp
    | some v =>
      obtain ⟨kk, n, rfl, h0, h1, h2⟩ := hhi
      simp at hlo; subst hlo
      simp [Instr.sliceBound, asIntOf, h0, h1, h2]
  | some u =>
    obtain ⟨kk, n, rfl, h0, h1, h2⟩ := hlo
    cases hi with
    | none =>
      simp at hhi; subst hhi
      simp [Instr.sliceBound, asIntOf, h0, h1, h2]
    | some v =>
      obtain ⟨kk', n', rfl, h0', h1', h2'⟩ := hhi
      simp [Instr.sliceBound, asIntOf, h0, h1, h2, h0', h1', h2']

theorem ba_extract (b : ByteArray) (x y : Nat) : (b.extract x y).data.toList = (b.data.toList.take y).drop x := by
  rw [ByteArray.data_extract, List.drop_take]
  simp

theorem sl_data {I : Nat → Prop} {v : Value} {ks : List CK} {l : List SV} (h : Conc I w v (.sl ks l)) : (l = [] ∧ ∃ ad cap, v = .slice ad 0 cap) ∨ ∃ (b off cap : Nat) (x : Nat → Nat → Value), v = .slice (some ⟨b, off, none⟩) l.length cap ∧ I b ∧ l.length ≤ cap ∧ (∀ e, e ∈ l → shOk ks e) ∧
    (∀ i j, i < l.length → j < ks.length → w.cell? ⟨b, off + i * ks.length + j, none⟩ = some (x i j)) ∧ (∀ i j, i < l.length → j < ks.length → Conc I w (x i j) (elCell l i j)) := by
  cases h with
  | sl0 a cap => exact .inl ⟨rfl, a, cap, rfl⟩
  | sl b off cap _ _ x hb hc hsh hx hxc => exact .inr ⟨b, off, cap, x, rfl, hb, hc, hsh, hx, hxc⟩

/-- A part of a slice that nobody writes. -/
theorem sl_part {I : Nat → Prop} {ad : Option Addr} {cap : Nat} {ks : List CK} {l : List SV} (h : Conc I w (.slice ad l.length cap) (.sl ks l)) (x y : Nat) (hx : x ≤ y) (hy : y ≤ l.length) (hc : y ≤ cap) :
    Conc I w (.slice (if cap = x then ad else ad.map (·.add (x * ks.length))) (y - x) (cap - x)) (.sl ks ((l.take y).drop x)) := by
  have hlen : ((l.take y).drop x).length = y - x := by simp; omega
  by_cases hxy : y = x
  · have hnil : (l.take y).drop x = [] := by apply List.eq_nil_of_length_eq_zero; omega
    rw [hnil, hxy, Nat.sub_self]
    exact .sl0 _ _ _
  · rcases sl_data h with ⟨h1, _⟩ | ⟨b, off, cap', x1, hv, hb, hc1, hsh, hx1, hxc⟩
    · subst h1; simp at hy; omega
    · simp only [Value.slice.injEq, true_and] at hv
      obtain ⟨rfl, rfl⟩ := hv
      rw [if_neg (by omega)]
      simp only [Option.map_some, addr_add]
      have : Value.slice (some ⟨b, off + x * ks.length, none⟩) (y - x) (cap - x) = Value.slice (some ⟨b, off + x * ks.length, none⟩) ((l.take y).drop x).length (cap - x) := by rw [hlen]
      rw [this]
      have hel : ∀ i j, i < y - x → elCell ((l.take y).drop x) i j = elCell l (x + i) j := fun i j hi => by
        simp only [elCell, List.getD_eq_getElem?_getD, List.getElem?_drop, List.getElem?_take]
        rw [if_pos (by omega)]
      refine .sl b (off + x * ks.length) (cap - x) ks _ (fun i j => x1 (x + i) j) hb (by omega) (fun e he => hsh e (List.mem_of_mem_take (List.mem_of_mem_drop he))) (fun i j hi hj => ?_) (fun i j hi hj => ?_)
      · have := hx1 (x + i) j (by omega) hj
        rw [Nat.add_mul] at this
        rw [show off + x * ks.length + i * ks.length + j = off + (x * ks.length + i * ks.length) + j by omega]
        exact this
      · rw [hel i j (by omega)]
        exact hxc (x + i) j (by omega) hj

theorem sl_capLe {I : Nat → Prop} {x : Value} {ks : List CK} {l : List SV} (h : Conc I w x (.sl ks l)) : ∃ ad cap, x = .slice ad l.length cap ∧ (l ≠ [] → l.length ≤ cap) := by
  cases h with
  | sl0 a cap => exact ⟨a, cap, rfl, fun h => (h rfl).elim⟩
  | sl b off cap _ _ x hb hc hsh hx hxc => exact ⟨_, cap, rfl, fun _ => hc⟩

theorem sound_slice (hP : CxOk P cx) {t : Nat} {y : Operand} {lo hi : Option Operand} (ho : o.op = .slice t y lo hi none) : Sound cx P o := by
  intro B M I0 G w0 E s a w K Q h hd hob hK
  have e : opx cx s.mem (ev s.tm) o = opE cx s.mem (ev s.tm) o.dst (.slice t y lo hi none) := by simp [opx, ho]
  rw [e] at hob hK
  simp only [opE] at hob hK
  have hy := h.eval y
  cases ht : tyOf cx t with
  | none => rw [ht] at hob; exact hob.elim
  | some L =>
    obtain ⟨d, h1, h2⟩ := (tyRun hP ht).desc
    simp only [ht] at hob hK
    cases hk : L.k <;> simp only [hk] at hob hK h2 <;> try exact hob.elim
    · -- a string
      have := TkOk_str h2
      subst this
      cases hv : ev s.tm y <;> simp only [hv] at hob hK <;> try exact hob.elim
      rename_i l
      rw [hv] at hy
      obtain ⟨b, e1, e2⟩ := hy.inv_str
      have hsz : b.size = l.length := by rw [← e2]; simp
      have run : ∀ (x z : Nat), x ≤ z → z ≤ l.length → (match lo.map a.eval with | none => x = 0 | some v => ∃ kk n, v = .int kk n ∧ 0 ≤ n ∧ n.toNat = x ∧ n ≤ z) → (match hi.map a.eval with | none => z = b.size | some v => ∃ kk n, v = .int kk n ∧ 0 ≤ n ∧ n.toNat = z ∧ n ≤ b.size) →
          ∀ {v : List UInt8}, v = (l.take z).drop x → (∀ E' a' w', Rel P cx.nt B M I0 G w0 E' (upd s o.dst (.str v) []) a' w' → K a' w') → Oper.wp P o a w K Q := by
        intro x z hxz hzl q1 q2 v hv' hK'
        refine op_val h hd (x := .string (b.extract x z)) ?_ (.conc _ _ (.str _ _ ?_)) hK'
        · have hb := run_bounds (P := P) false b.size b.size (lo.map a.eval) (hi.map a.eval) x z q1 q2 w
          have hcase : ∀ (lo' hi' : Option Value), (Instr.sliceBounds false b.size b.size lo' hi' none).run P w = .ok (x, z, b.size) w → (Instr.slice t (.string b) lo' hi' none).run P w = .ok (.string (b.extract x z)) w := by
            intro lo' hi' hh
            simp [Instr.slice, run_underlying h1, hh]
          simp only [execOp, ho, Instr.sliceAt, Sem.run_bind, run_underlying h1, Result.andThen_ok, e1, Option.map_none]
          rw [hcase _ _ hb]
          rfl
        · rw [hv', ba_extract b x z, e2]
      have nat : ∀ {n : Int} {m : Nat}, 0 ≤ n → n ≤ m → n.toNat ≤ m := fun h1 h2 => by omega
      cases lo with
      | none =>
        cases hi with
        | none =>
          simp only [Option.map_none] at hob hK
          exact run 0 l.length (Nat.zero_le _) (Nat.le_refl _) (by simp) (by simp [hsz]) (by simp) hK
        | some z =>
          simp only [Option.map_none, Option.map_some] at hob hK
          cases hz : ev s.tm z <;> simp only [hz] at hob hK <;> try exact hob.elim
          rename_i k n
          have hz' := h.eval z
          rw [hz] at hz'
          obtain ⟨⟨p1, p2⟩⟩ := hob
          exact run 0 n.toNat (Nat.zero_le _) (by omega) (by simp) ⟨k, n, hz'.inv_int, p1, rfl, by rw [hsz]; exact p2⟩ (by simp) hK
      | some u =>
        have hu' := h.eval u
        cases hi with
        | none =>
          simp only [Option.map_none, Option.map_some] at hob hK
          cases hu : ev s.tm u <;> simp only [hu] at hob hK <;> try exact hob.elim
          rename_i k n
          rw [hu] at hu'
          obtain ⟨⟨p1, p2⟩⟩ := hob
          exact run n.toNat l.length (by omega) (Nat.le_refl _) ⟨k, n, hu'.inv_int, p1, rfl, p2⟩ (by simp [hsz]) (by simp) hK
        | some z =>
          have hz' := h.eval z
          simp only [Option.map_some] at hob hK
          cases hu : ev s.tm u <;> simp only [hu] at hob hK <;> try exact hob.elim
          cases hz : ev s.tm z <;> simp only [hz] at hob hK <;> try exact hob.elim
          rename_i k n k' n'
          rw [hu] at hu'
          rw [hz] at hz'
          obtain ⟨⟨p1, p2, p3⟩⟩ := hob
          exact run n.toNat n'.toNat (by omega) (by omega) ⟨k, n, hu'.inv_int, p1, rfl, by omega⟩ ⟨k', n', hz'.inv_int, by omega, rfl, by rw [hsz]; exact p3⟩ rfl hK
    · -- a slice
      rename_i et
      have := TkOk_sl h2
      subst this
      -- the run, off bounds that fit
      have run : ∀ {ad : Option Addr} {len cap x z sz : Nat} {inf : TypeInfo}, a.eval y = .slice ad len cap → P.info? et = some inf → inf.size = sz → (match lo.map a.eval with | none => x = 0 | some v => ∃ kk n, v = .int kk n ∧ 0 ≤ n ∧ n.toNat = x ∧ n ≤ z) → (match hi.map a.eval with | none => z = len | some v => ∃ kk n, v = .int kk n ∧ 0 ≤ n ∧ n.toNat = z ∧ n ≤ cap) →
          (execOp a.eval o).run P w = .ok (.value (.slice (if cap = x then ad else ad.map (·.add (x * sz))) (z - x) (cap - x))) w := by
        intro ad len cap x z sz inf e1 i1 i2 q1 q2
        have hb := run_bounds (P := P) true len cap (lo.map a.eval) (hi.map a.eval) x z q1 q2 w
        have hcase : ∀ (lo' hi' : Option Value), (Instr.sliceBounds true len cap lo' hi' none).run P w = .ok (x, z, cap) w → (Instr.slice t (.slice ad len cap) lo' hi' none).run P w = .ok (.slice (if cap = x then ad else ad.map (·.add (x * sz))) (z - x) (cap - x)) w := by
          intro lo' hi' hh
          simp [Instr.slice, run_underlying h1, hh, run_size i1, i2]
        simp only [execOp, ho, Instr.sliceAt, Sem.run_bind, run_underlying h1, Result.andThen_ok, e1, Option.map_none]
        rw [hcase _ _ hb]
        rfl
      -- a part of what nobody writes
      have part : ∀ {Le : TyL} {ks : List CK} {l : List SV} {rd : List Nat}, tyOf cx et = some Le → Conc E.I w (a.eval y) (.sl ks l) → obH (slPart Le ks l rd (lo.map (ev s.tm)) (hi.map (ev s.tm))).ob →
          (∀ E' a' w', Rel P cx.nt B M I0 G w0 E' (upd s o.dst (slPart Le ks l rd (lo.map (ev s.tm)) (hi.map (ev s.tm))).v (slPart Le ks l rd (lo.map (ev s.tm)) (hi.map (ev s.tm))).ch) a' w' → K a' w') → Oper.wp P o a w K Q := by
        intro Le ks l rd hte hsl0 hob hK
        obtain ⟨inf, _, i1, i2, _⟩ := (tyRun hP hte).info
        unfold slPart at hob hK
        cases hq : Nat.beq Le.ks.length ks.length with
        | false => simp only [hq] at hob; exact hob.elim
        | true =>
          simp only [hq] at hob hK
          have hq := Nat.eq_of_beq_eq_true hq
          obtain ⟨ad, cap, e1, hcap⟩ := sl_capLe hsl0
          have hcl : ∀ {z : Nat}, z ≤ l.length → z ≤ cap := fun {z} hz => by
            by_cases h0 : l = []
            · rw [h0] at hz; simp at hz; omega
            · exact Nat.le_trans hz (hcap h0)
          have hsl := hsl0
          rw [e1] at hsl
          have go : ∀ (x z : Nat), x ≤ z → z ≤ l.length → (match lo.map a.eval with | none => x = 0 | some v => ∃ kk n, v = .int kk n ∧ 0 ≤ n ∧ n.toNat = x ∧ n ≤ z) → (match hi.map a.eval with | none => z = l.length | some v => ∃ kk n, v = .int kk n ∧ 0 ≤ n ∧ n.toNat = z ∧ n ≤ cap) →
              ∀ {v : List SV}, v = (l.take z).drop x → (∀ E' a' w', Rel P cx.nt B M I0 G w0 E' (upd s o.dst (.sl ks v) []) a' w' → K a' w') → Oper.wp P o a w K Q := by
            intro x z hxz hzl q1 q2 v hv' hK'
            refine op_val h hd (run e1 i1 (i2.trans hq) q1 q2) (.conc _ _ ?_) hK'
            rw [hv']
            exact sl_part hsl x z hxz hzl (hcl hzl)
          cases lo with
          | none =>
            cases hi with
            | none => simp only [Option.map_none] at hob; exact hob.elim
            | some z =>
              simp only [Option.map_none, Option.map_some] at hob hK
              cases hz : ev s.tm z <;> simp only [hz] at hob hK <;> try exact hob.elim
              rename_i k n
              have hz' := h.eval z
              rw [hz] at hz'
              obtain ⟨⟨p1, p2⟩⟩ := hob
              have := hcl (z := n.toNat) (by omega)
              exact go 0 n.toNat (Nat.zero_le _) (by omega) (by simp) ⟨k, n, hz'.inv_int, p1, rfl, by omega⟩ (by simp) hK
          | some u =>
            have hu' := h.eval u
            cases hi with
            | none =>
              simp only [Option.map_none, Option.map_some] at hob hK
              cases hu : ev s.tm u <;> simp only [hu] at hob hK <;> try exact hob.elim
              rename_i k n
              rw [hu] at hu'
              obtain ⟨⟨p1, p2⟩⟩ := hob
              exact go n.toNat l.length (by omega) (Nat.le_refl _) ⟨k, n, hu'.inv_int, p1, rfl, p2⟩ (by simp) (by simp) hK
            | some z =>
              have hz' := h.eval z
              simp only [Option.map_some] at hob hK
              cases hu : ev s.tm u <;> simp only [hu] at hob hK <;> try exact hob.elim
              cases hz : ev s.tm z <;> simp only [hz] at hob hK <;> try exact hob.elim
              rename_i k n k' n'
              rw [hu] at hu'
              rw [hz] at hz'
              obtain ⟨⟨p1, p2, p3⟩⟩ := hob
              have := hcl (z := n'.toNat) (by omega)
              exact go n.toNat n'.toNat (by omega) (by omega) ⟨k, n, hu'.inv_int, p1, rfl, by omega⟩ ⟨k', n', hz'.inv_int, by omega, rfl, by omega⟩ rfl hK
      cases hv : ev s.tm y <;> simp only [hv] at hob hK <;> try exact hob.elim
      · -- a slice of the function's own
        rename_i c ver
        rw [hv] at hy
        cases hte : tyOf cx et with
        | none => simp only [hte] at hob; exact hob.elim
        | some Le =>
          cases hm : lkO s.mem c with
          | none => simp only [hte, hm] at hob; exact hob.elim
          | some ch =>
            simp only [hte, hm] at hob hK
            cases ch <;> simp only at hob hK <;> try exact hob.elim
            · rename_i v2 e' ks l
              cases hq : (Nat.beq v2 ver && Nat.beq Le.ks.length ks.length) with
              | false => simp only [hq] at hob; exact hob.elim
              | true =>
                simp only [hq] at hob hK
                cases lo with
                | some u =>
                  cases hi with
                  | some z =>
                    simp only [Option.map_some] at hob
                    cases hu : ev s.tm u <;> simp only [hu] at hob <;> exact hob.elim
                  | none =>
                    have hu' := h.eval u
                    simp only [Option.map_some, Option.map_none] at hob hK
                    cases hu : ev s.tm u <;> simp only [hu] at hob hK <;> try exact hob.elim
                    rename_i kk n
                    rw [hu] at hu'
                    simp only [Bool.and_eq_true] at hq
                    have p1 := Nat.eq_of_beq_eq_true hq.1
                    have p2 := Nat.eq_of_beq_eq_true hq.2
                    subst p1
                    obtain ⟨⟨o1, o2⟩⟩ := hob
                    obtain ⟨inf, _, i1, i2, _⟩ := (tyRun hP hte).info
                    have hc0 := h.ch c
                    rw [hm] at hc0
                    obtain ⟨v', g1, g2⟩ := hy.inv_osl
                    have g1' := g1
                    rw [hm] at g1
                    simp only [verOf, Option.some.injEq] at g1
                    have hxe := g2 g1
                    obtain ⟨ad, cap, hsl⟩ := RowR.isSlice hc0
                    have hrun := run (x := n.toNat) (z := l.length) (sz := ks.length) (hxe.trans hsl) i1 (i2.trans p2) ⟨_, _, hu'.inv_int, o1, rfl, o2⟩ rfl
                    refine op_val h hd hrun (.otl _ _ _ _ _ v' g1' (Nat.le_of_eq g1) (fun _ ad' n' cap' he => ?_)) hK
                    rw [hsl] at he
                    cases he
                    rfl
                | none =>
                  cases hi with
                  | none => exact hob.elim
                  | some z =>
                    have hz' := h.eval z
                    simp only [Option.map_some, Option.map_none] at hob hK
                    cases hz : ev s.tm z <;> simp only [hz] at hob hK <;> try exact hob.elim
                    rename_i kk n
                    rw [hz] at hz'
                    simp only [Bool.and_eq_true] at hq
                    have p1 := Nat.eq_of_beq_eq_true hq.1
                    have p2 := Nat.eq_of_beq_eq_true hq.2
                    subst p1
                    obtain ⟨inf, _, i1, i2, _⟩ := (tyRun hP hte).info
                    have hc0 := h.ch c
                    rw [hm] at hc0
                    obtain ⟨v', g1, g2⟩ := hy.inv_osl
                    rw [hm] at g1
                    simp only [verOf, Option.some.injEq] at g1
                    have hxe := g2 g1
                    obtain ⟨t1, ⟨t2, xs, t3, t4⟩ | ⟨z1, z2, adz, z3⟩⟩ := hc0
                    rotate_left
                    · rw [← hxe] at z3
                      subst z1
                      have h0 : ∀ {kk : IntKind} {n : Int}, a.eval z = .int kk n → n = 0 → ∃ ad', (execOp a.eval o).run P w = .ok (.value (.slice ad' 0 0)) w ∧ (ad' = adz) := fun hz0 hn0 => by
                        subst hn0
                        have := run (x := 0) (z := 0) (sz := ks.length) z3 i1 (i2.trans p2) (by simp) ⟨_, _, hz0, by omega, by omega, by omega⟩
                        refine ⟨adz, ?_, rfl⟩
                        rw [this]
                        cases adz with
                        | none => rfl
                        | some b => simp [addr_add]
                      cases hfb : fullB cx.pl n [] with
                      | true =>
                        simp only [hfb] at hob hK
                        have hn : n = 0 := by
                          unfold fullB at hfb
                          split at hfb
                          · exact of_decide_eq_true hfb
                          · cases hfb
                        obtain ⟨ad', hr, e0⟩ := h0 hz'.inv_int hn
                        subst e0
                        exact op_val h hd (x := a.eval y) (by rw [hr, z3]) hy hK
                      | false =>
                        simp only [hfb] at hob hK
                        obtain ⟨⟨b1, b2⟩⟩ := hob
                        obtain ⟨ad', hr, e0⟩ := h0 hz'.inv_int (by simp at b2; omega)
                        subst e0
                        unfold Oper.wp
                        rw [hr]
                        refine hK (E.withRow c (.slice ad' 0 0)) _ _ ?_
                        exact h.rowZ (.inr ⟨v2, by rw [hm]; rfl, Nat.lt_succ_self _⟩) (by simp) (dOk_lt hd)
                    rw [← hxe] at t2 t3
                    cases hfb : fullB cx.pl n l with
                    | true =>
                      simp only [hfb] at hob hK
                      have hn : n = l.length := by
                        unfold fullB at hfb
                        split at hfb
                        · exact of_decide_eq_true hfb
                        · cases hfb
                      rcases t3.2 with ⟨q1, q2⟩ | ⟨g, cap, cur, q1, q3, q4, q5, q6, q7, q8⟩
                      · refine op_val h hd (x := a.eval y) ?_ hy hK
                        have := run (x := 0) (z := 0) (sz := ks.length) q1 i1 (i2.trans p2) (by simp) ⟨kk, n, hz'.inv_int, by omega, by omega, by omega⟩
                        rw [this, q1]; rfl
                      · refine op_val h hd (x := a.eval y) ?_ hy hK
                        have := run (x := 0) (z := l.length) (sz := ks.length) q1 i1 (i2.trans p2) (by simp) ⟨kk, n, hz'.inv_int, by omega, by omega, by omega⟩
                        rw [this, q1]
                        congr 3
                        split <;> simp [addr_add]
                    | false =>
                      simp only [hfb] at hob hK
                      obtain ⟨⟨b1, b2⟩⟩ := hob
                      have hnl : n.toNat ≤ l.length := by omega
                      have done : ∀ {x : Value}, (execOp a.eval o).run P w = .ok (.value x) w → x.ownBlock = (a.eval y).ownBlock → w.ownsRow 0 e' ks.length x n.toNat (xs.take (n.toNat * ks.length)) → Oper.wp P o a w K Q := by
                        intro x hr hbl hown
                        unfold Oper.wp
                        rw [hr]
                        refine hK (E.withRow c x) _ _ ?_
                        have hlen : (l.take n.toNat).length = n.toNat := by simp; omega
                        refine h.row (row := none) (xs := xs.take (n.toNat * ks.length)) rfl (fun _ => rfl) (.inr ⟨v2, by rw [hm]; rfl, Nat.lt_succ_self _⟩) ⟨rfl, rfl, rfl, Nat.le_refl _, fun _ _ _ => rfl⟩ (fun k hk => by cases hk)
                          (fun b hb => ⟨(h.loc c b (t2.trans (hbl ▸ hb))).1, .inl ⟨by rw [hm]; simp, t2.trans (hbl ▸ hb)⟩⟩) (fun e he => t1 e (List.mem_of_mem_take he)) (by rw [hlen]; exact hown) (fun i j hi hj => ?_) (dOk_lt hd)
                        rw [hlen] at hi
                        have hlt : i * ks.length + j < n.toNat * ks.length := by
                          have : (i + 1) * ks.length ≤ n.toNat * ks.length := Nat.mul_le_mul_right _ hi
                          rw [Nat.add_mul, Nat.one_mul] at this
                          omega
                        have e3 : (xs.take (n.toNat * ks.length)).getD (i * ks.length + j) undef = xs.getD (i * ks.length + j) undef := by simp only [List.getD_eq_getElem?_getD]; rw [List.getElem?_take, if_pos hlt]
                        have e4 : elCell (l.take n.toNat) i j = elCell l i j := by simp only [elCell, List.getD_eq_getElem?_getD]; rw [List.getElem?_take, if_pos hi]
                        rw [e3, e4]
                        exact t4 i j (by omega) hj
                      have hxl := t3.1
                      have htk : (xs.take (n.toNat * ks.length)).length = n.toNat * ks.length := by
                        rw [List.length_take, hxl]
                        exact Nat.min_eq_left (Nat.mul_le_mul_right _ hnl)
                      rcases t3.2 with ⟨q1, q2⟩ | ⟨g, cap, cur, q1, q3, q4, q5, q6, q7, q8⟩
                      · have h0 : n.toNat = 0 := by omega
                        refine done (x := .slice none 0 0) ?_ (by rw [q1]) ?_
                        · have := run (x := 0) (z := 0) (sz := ks.length) q1 i1 (i2.trans p2) (by simp) ⟨kk, n, hz'.inv_int, b1, h0, by omega⟩
                          simpa using this
                        · rw [h0]; simp only [Nat.zero_mul, List.take_zero]; exact World.ownsRow_nil w 0 e' _
                      · refine done (x := .slice (some ⟨g, 0, none⟩) n.toNat cap) ?_ (by rw [q1]; rfl) ?_
                        · have := run (x := 0) (z := n.toNat) (sz := ks.length) q1 i1 (i2.trans p2) (by simp) ⟨kk, n, hz'.inv_int, b1, rfl, by omega⟩
                          rw [this]
                          congr 3
                          split <;> simp [addr_add]
                        · refine ⟨htk, .inr ⟨g, cap, cur, rfl, q3, q4, by omega, q6, q7, ?_⟩⟩
                          rw [← q8, List.take_take, Nat.min_eq_left (Nat.mul_le_mul_right _ hnl)]
            · rename_i v2 ks l
              cases hq : Nat.beq v2 ver with
              | false => simp only [hq] at hob; exact hob.elim
              | true =>
                simp only [hq] at hob hK
                have p1 := Nat.eq_of_beq_eq_true hq
                subst p1
                obtain ⟨v', g1, g2⟩ := hy.inv_osl
                rw [hm] at g1
                simp only [verOf, Option.some.injEq] at g1
                have hxe := g2 g1
                have hc0 := h.ch c
                rw [hm] at hc0
                have hc0 : Conc E.I w (E.cv c) (.sl ks l) := hc0
                rw [← hxe] at hc0
                exact part hte hc0 hob hK
      · -- a slice that nobody writes
        rename_i ks l
        rw [hv] at hy
        cases hte : tyOf cx et with
        | none => simp only [hte] at hob; exact hob.elim
        | some Le =>
          simp only [hte] at hob hK
          exact part hte hy.inv_sl hob hK
      · -- nil
        rw [hv] at hy
        cases hte : tyOf cx et with
        | none => simp only [hte] at hob; exact hob.elim
        | some Le =>
          obtain ⟨inf, _, i1, i2, _⟩ := (tyRun hP hte).info
          cases lo with
          | some u => simp only [hte] at hob; exact hob.elim
          | none =>
            cases hi with
            | none => simp only [hte] at hob; exact hob.elim
            | some z =>
              have hz' := h.eval z
              simp only [hte, Option.map_some] at hob hK
              cases hz : ev s.tm z <;> simp only [hz] at hob hK <;> try exact hob.elim
              rename_i kk n
              rw [hz] at hz'
              have hn := hob.out
              refine op_val h hd (x := .slice none 0 0) ?_ (.conc _ _ .nilsl) hK
              have := run (x := 0) (z := 0) (sz := inf.size) hy.inv_nilsl i1 rfl (by simp) ⟨kk, n, hz'.inv_int, by omega, by omega, by omega⟩
              rw [this]; rfl

theorem isZ_eval {z : Operand} (h : isZ z = true) : ∃ k, a.eval z = .int k 0 := by
  unfold isZ at h
  split at h
  · exact ⟨_, rfl⟩
  · cases h
theorem sound_slice3 (hP : CxOk P cx) {t : Nat} {y hi mx : Operand} (ho : o.op = .slice t y none (some hi) (some mx)) : Sound cx P o := by
  intro B M I0 G w0 E s a w K Q h hd hob hK
  have e : opx cx s.mem (ev s.tm) o = opE cx s.mem (ev s.tm) o.dst (.slice t y none (some hi) (some mx)) := by simp [opx, ho]
  rw [e] at hob hK
  simp only [opE] at hob hK
  have hy := h.eval y
  have hh := h.eval hi
  have hx := h.eval mx
  cases ht : tyOf cx t with
  | none => rw [ht] at hob; exact hob.elim
  | some L =>
    obtain ⟨d, h1, h2⟩ := (tyRun hP ht).desc
    simp only [ht] at hob hK
    cases hk : L.k <;> simp only [hk] at hob hK h2 <;> try exact hob.elim
    rename_i et
    have := TkOk_sl h2
    subst this
    cases hte : tyOf cx et with
    | none => simp only [hte] at hob; exact hob.elim
    | some Le =>
      obtain ⟨inf, _, i1, i2, _⟩ := (tyRun hP hte).info
      simp only [hte] at hob hK
      have full : ∀ {I : Nat → Prop} {ks : List CK} {l : List SV} {k k' : IntKind} {n n' : Int}, Conc I w (a.eval y) (.sl ks l) → a.eval hi = .int k n → a.eval mx = .int k' n' → n = l.length → n' = l.length →
          ∃ ad, (execOp a.eval o).run P w = .ok (.value (.slice ad l.length l.length)) w ∧ Conc I w (.slice ad l.length l.length) (.fsl ks l) := by
        intro I ks l k k' n n' hsl e2 e3 q1 q2
        have run : ∀ {ad : Option Addr} {cap : Nat}, a.eval y = .slice ad l.length cap → l.length ≤ cap → (execOp a.eval o).run P w = .ok (.value (.slice ad l.length l.length)) w := by
          intro ad cap e1 hcap
          simp [execOp, ho, Instr.sliceAt, run_underlying h1, e1, e2, e3, q1, q2, Instr.slice, Instr.sliceBounds, Instr.sliceBound, asIntOf, run_size i1, hcap]
          all_goals (intro _; cases ad with
            | none => rfl
            | some b => simp [Addr.add])
        rcases sl_data hsl with ⟨rfl, ad, cap, e1⟩ | ⟨b, off, cap, x, e1, hb, hc, hsh, hx1, hxc⟩
        · exact ⟨ad, run e1 (Nat.zero_le _), .fsl ad ks [] (.sl0 ad 0 ks)⟩
        · exact ⟨_, run e1 hc, .fsl _ ks l (.sl b off l.length ks l x hb (Nat.le_refl _) hsh hx1 hxc)⟩
      by_cases hzz : (isZ hi && isZ mx) = true ∧ ∃ ks l, ev s.tm y = .sl ks l
      · obtain ⟨hz, ks, l, hv⟩ := hzz
        rw [hz, hv] at hob hK
        simp only [sl3Z, slZOf] at hob hK
        rw [hv] at hy
        cases hq : Nat.beq Le.ks.length ks.length with
        | false => simp only [hq] at hob; exact hob.elim
        | true =>
          simp only [hq] at hob hK
          simp only [Bool.and_eq_true] at hz
          obtain ⟨k1, e2⟩ := isZ_eval (a := a) hz.1
          obtain ⟨k2, e3⟩ := isZ_eval (a := a) hz.2
          have fin : ∀ ad len cap, a.eval y = .slice ad len cap → ∃ ad', (execOp a.eval o).run P w = .ok (.value (.slice ad' 0 0)) w := by
            intro ad len cap e1
            cases ad with
            | none => exact ⟨none, by simp [execOp, ho, Instr.sliceAt, run_underlying h1, e1, e2, e3, Instr.slice, Instr.sliceBounds, Instr.sliceBound, asIntOf, run_size i1]⟩
            | some b => exact ⟨_, by simp [execOp, ho, Instr.sliceAt, run_underlying h1, e1, e2, e3, Instr.slice, Instr.sliceBounds, Instr.sliceBound, asIntOf, run_size i1]; rfl⟩
          obtain ⟨ad, cap, e1, _⟩ := sl_len hy.inv_sl
          obtain ⟨ad', hr⟩ := fin ad _ cap e1
          exact op_val h hd hr (.conc _ _ (.fsl ad' ks [] (.sl0 ad' 0 ks))) hK
      rw [sl3Z_no (fun ks l h1 h2 => hzz ⟨h1, ks, l, h2⟩)] at hob hK
      cases hv2 : ev s.tm hi <;> simp only [hv2] at hob hK <;> try exact hob.elim
      cases hv3 : ev s.tm mx <;> simp only [hv3] at hob hK <;> try exact hob.elim
      rename_i k1 n k2 n'
      rw [hv2] at hh
      rw [hv3] at hx
      unfold sl3Of at hob hK
      cases hv : ev s.tm y <;> simp only [hv] at hob hK <;> try exact hob.elim
      all_goals rw [hv] at hy
      · -- of the function's own
        rename_i c ver
        cases hm : lkO s.mem c with
        | none => simp only [hm] at hob; exact hob.elim
        | some ch =>
          simp only [hm] at hob hK
          obtain ⟨v', g1, g2⟩ := hy.inv_osl
          have hc0 := h.ch c
          rw [hm] at g1 hc0
          cases ch <;> simp only at hob hK <;> try exact hob.elim
          · rename_i v e' ks l
            cases hq : (Nat.beq v ver && Nat.beq Le.ks.length ks.length) with
            | false => simp only [hq] at hob; exact hob.elim
            | true =>
              simp only [hq] at hob hK
              simp only [Bool.and_eq_true] at hq
              have p1 := Nat.eq_of_beq_eq_true hq.1
              subst p1
              simp only [verOf, Option.some.injEq] at g1
              have hxe := g2 g1
              obtain ⟨q1, q2⟩ := hob.out
              obtain ⟨E', f1, f2, f3⟩ := h.freeze1 hm
              have hc1 := f1.ch c
              dsimp only at hc1
              rw [lkO_cons, if_pos rfl] at hc1
              have hc1 : Conc E'.I w (E'.cv c) (.sl ks l) := hc1
              rw [f3, ← hxe] at hc1
              obtain ⟨ad, hr, hcc⟩ := full hc1 hh.inv_int hx.inv_int q1 q2
              unfold Oper.wp
              rw [hr]
              exact hK E' _ _ (f1.val (dOk_lt hd) (.conc _ _ hcc))
          · rename_i v ks l
            cases hq : (Nat.beq v ver && Nat.beq Le.ks.length ks.length) with
            | false => simp only [hq] at hob; exact hob.elim
            | true =>
              simp only [hq] at hob hK
              simp only [Bool.and_eq_true] at hq
              have p1 := Nat.eq_of_beq_eq_true hq.1
              subst p1
              simp only [verOf, Option.some.injEq] at g1
              have hxe := g2 g1
              obtain ⟨q1, q2⟩ := hob.out
              have hc1 : Conc E.I w (E.cv c) (.sl ks l) := hc0
              rw [← hxe] at hc1
              obtain ⟨ad, hr, hcc⟩ := full hc1 hh.inv_int hx.inv_int q1 q2
              exact op_val h hd hr (.conc _ _ hcc) hK
      · rename_i ks l
        cases hq : Nat.beq Le.ks.length ks.length with
        | false => simp only [hq] at hob; exact hob.elim
        | true =>
          simp only [hq] at hob hK
          obtain ⟨q1, q2⟩ := hob.out
          obtain ⟨ad, hr, hcc⟩ := full hy.inv_sl hh.inv_int hx.inv_int q1 q2
          exact op_val h hd hr (.conc _ _ hcc) hK
      · obtain ⟨q1, q2⟩ := hob.out
        subst q1 q2
        refine op_val h hd (x := .slice none 0 0) ?_ (.conc _ _ .nilsl) hK
        simp [execOp, ho, Instr.sliceAt, run_underlying h1, hy.inv_nilsl, hh.inv_int, hx.inv_int, Instr.slice, Instr.sliceBounds, Instr.sliceBound, asIntOf, run_size i1]
end
end Go.Rx

