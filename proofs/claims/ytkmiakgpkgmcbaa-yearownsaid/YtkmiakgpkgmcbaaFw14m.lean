/- The framework, part 14m: maps of the function's own. -/
import Derived.Test.YtkmiakgpkgmcbaaFw14
import Derived.MapKept
import Derived.Maps.RangeRun
namespace Go.Rx
set_option linter.unusedSectionVars false
set_option linter.unusedSimpArgs false
set_option linter.unusedVariables false
open Go.RowKit
section
variable {cx : Cx} {P : Program} [Laid P] {B : Nat} {M I0 : Nat → Prop} {G : Nat → Value} {w0 : World} {E : Env} {s : St} {a : Act} {w : World} {o : Oper}

/-- The kind of a map's keys, as the program has it. -/
def KkOk (d : TypeDesc) : CK → Prop
  | .str => d = .string
  | .int .i64 => d = .int .i64
  | _ => False

theorem mpKey_inv {I : Nat → Prop} {kk : CK} {k : SV} {x : Value} (h : mpKey kk k = true) (hx : CV E (lkO s.mem) w x k) : (∃ b, kk = .str ∧ k = .str b.data.toList ∧ x = .string b) ∨ (∃ n, kk = .int .i64 ∧ k = .int .i64 n ∧ x = .int .i64 n) := by
  unfold mpKey at h
  split at h
  · obtain ⟨b, rfl, e⟩ := hx.inv_str
    exact .inl ⟨b, rfl, by rw [e], rfl⟩
  · exact .inr ⟨_, rfl, rfl, hx.inv_int⟩
  · cases h

theorem sameNow_eq {I : Nat → Prop} {kk vk : CK} {d : TypeDesc} {e : MapEntry} {v k : SV} {x : Value} (hd : KkOk d kk) (he : EntR I w kk vk e v)
    (hx : (∃ b, kk = .str ∧ k = .str b.data.toList ∧ x = .string b) ∨ (∃ n, kk = .int .i64 ∧ k = .int .i64 n ∧ x = .int .i64 n)) :
    Instr.sameNow d x e.key = some (keyEq k (v.cells.getD 0 .any)) ∧ (keyEq k (v.cells.getD 0 .any) = true → e.key = x) := by
  obtain ⟨h1, h2, h3, h4⟩ := he
  have hk0 : kOk kk (v.cells.getD 0 .any) := h1.2 0 (by simp)
  rcases hx with ⟨b, rfl, rfl, rfl⟩ | ⟨n, rfl, rfl, rfl⟩
  · obtain ⟨s, hs⟩ := hk0
    rw [hs] at h2 ⊢
    have hd : d = .string := hd
    subst hd
    cases hkey : e.key <;> rw [hkey] at h2 <;> cases h2
    rename_i b' e'
    subst e'
    have hbeq : (b == b') = decide (b.data.toList = b'.data.toList) := by
      by_cases hb : b = b'
      · subst hb; rw [(MapKept.bytes_beq b b).2 rfl]; simp
      · have h5 : ¬ b.data.toList = b'.data.toList := fun hc => hb (by
          cases b; cases b'; simp only [ByteArray.mk.injEq]; exact Array.toList_inj.1 hc)
        have h6 : (b == b') = false := by
          cases h7 : (b == b') with
          | false => rfl
          | true => exact absurd ((MapKept.bytes_beq b b').1 h7) hb
        rw [h6, decide_eq_false h5]
    refine ⟨by simp only [Instr.sameNow, keyEq, hbeq], fun hh => ?_⟩
    simp only [keyEq] at hh
    rw [← hbeq] at hh
    rw [(MapKept.bytes_beq b b').1 hh]
  · obtain ⟨s, hs⟩ := hk0
    rw [hs] at h2 ⊢
    have hd : d = .int .i64 := hd
    subst hd
    cases hkey : e.key <;> rw [hkey] at h2 <;> cases h2
    refine ⟨by simp [Instr.sameNow, keyEq, BEq.beq], fun hh => ?_⟩
    simp only [keyEq, decide_eq_true_eq] at hh
    rw [hh]

/-- What is found at a key. -/
theorem find_eq {I : Nat → Prop} {kk vk : CK} {d : TypeDesc} {k : SV} {x : Value} (hd : KkOk d kk)
    (hx : (∃ b, kk = .str ∧ k = .str b.data.toList ∧ x = .string b) ∨ (∃ n, kk = .int .i64 ∧ k = .int .i64 n ∧ x = .int .i64 n)) :
    ∀ (es : List MapEntry) (l : List SV) (n : Nat), EsR I w kk vk es l →
      (mpGet l k = none ∧ Instr.findNow d x es n = some none) ∨
      ∃ j e v, es[j]? = some e ∧ l[j]? = some v ∧ EntR I w kk vk e v ∧ e.key = x ∧ mpGet l k = some (v.cells.getD 1 .any) ∧ Instr.findNow d x es n = some (some (n + j, e.val)) ∧
        ∀ u, mpMod l k u = l.set j (.agg [v.cells.getD 0 .any, u, v.cells.getD 2 .any])
  | [], [], n, _ => .inl ⟨rfl, rfl⟩
  | e :: es, v :: l, n, ⟨h1, h2⟩ => by
    obtain ⟨e1, e2⟩ := sameNow_eq hd h1 hx
    simp only [mpGet, mpMod, Instr.findNow, e1]
    cases hk : keyEq k (v.cells.getD 0 .any) with
    | true => exact .inr ⟨0, e, v, rfl, rfl, h1, e2 hk, rfl, rfl, fun u => rfl⟩
    | false =>
      rcases find_eq hd hx es l (n + 1) h2 with h3 | ⟨j, e', v', q1, q2, q3, q4, q5, q6, q7⟩
      · exact .inl h3
      · exact .inr ⟨j + 1, e', v', q1, q2, q3, q4, q5, by dsimp only; rw [q6, Nat.add_right_comm, Nat.add_assoc], fun u => by dsimp only; rw [q7 u]; rfl⟩

theorem tyMap (hP : CxOk P cx) {t : Nat} {L : TyL} (ht : tyOf cx t = some L) {k e : Nat} (hk : L.k = .mp k e) : P.underlying t = some (.map k e) := by
  obtain ⟨d, h1, h2⟩ := (tyRun hP ht).desc
  rw [hk] at h2
  cases d <;> first | exact h2.elim | (obtain ⟨rfl, rfl⟩ := h2; exact h1)

/-- A new map. -/
theorem sound_makeMap (hP : CxOk P cx) {t : Nat} (ho : o.op = .makeMap t none) : Sound cx P o := by
  intro B M I0 G w0 E s a w K Q h hd hob hK
  have e : opx cx s.mem (ev s.tm) o = mkMap cx s.mem o.dst t := by simp [opx, ho, opE]
  rw [e] at hob hK
  unfold mkMap at hob hK
  split at hob
  · rename_i d L hdst ht
    simp only [hdst, ht] at hK
    split at hob
    · rename_i k e' hk
      simp only [hk] at hK
      split at hob
      · rename_i Lk Le hLk hLe
        simp only [hLk, hLe] at hK
        split at hob
        · rename_i kk vk q1 q2 hfree
          simp only [q1, q2, hfree] at hK
          unfold Oper.wp
          have hrun : (execOp a.eval o).run P w = .ok (.value (.map (some w.heap.size))) (w.alloc (.map #[] 0)) := by
            simp [execOp, ho, Instr.makeMap]
          rw [hrun]
          refine hK (E.withBlock (cx.off + d) w.heap.size (.map (some w.heap.size))) _ _ ?_
          rw [hdst]
          refine h.alloc (dOk_lt hd d hdst) hfree rfl fun E' hE' hm => ?_
          have hl : lkO ([(cx.off + d, Chunk.mp t kk vk [] 0)] ++ s.mem) (cx.off + d) = some (.mp t kk vk [] 0) := by rw [List.singleton_append, lkO_cons, if_pos rfl]
          exact ⟨.mpp _ w.heap.size (by rw [hl]; rfl) (by rw [hE']; simp [Env.withBlock]), w.heap.size, by rw [hE']; simp [Env.withBlock], #[], heap_new w _, trivial, ⟨fun e he => (by cases he), List.Pairwise.nil⟩⟩
        · exact hob.elim
      · exact hob.elim
    · exact hob.elim
  · exact hob.elim
/-- A map of the function's own is written. -/
theorem Rel.mput (h : Rel P cx.nt B M I0 G w0 E s a w) {c b t : Nat} {kk vk : CK} {l l' : List SV} {ck ck' : Nat} (hro : roK c = false) (hm : lkO s.mem c = some (.mp t kk vk l ck)) (hl : E.loc c = some b) {es : Array MapEntry}
    (h1 : EsR E.I w kk vk es.toList l') (h2 : ∀ e, e ∈ es.toList → e.born < ck') (h3 : (es.toList.map (·.born)).Pairwise (· < ·)) {d : Option Nat} (hd : ∀ k, d = some k → k < cx.nt) {x : Value} {v : SV} (hv : CV E (lkO s.mem) w x v) {w' : World}
    (hb : w'.heap[b]? = some (.map es ck')) (ho : ∀ k, k ≠ b → w'.heap[k]? = w.heap[k]?) (hsz : w'.heap.size = w.heap.size) (hos : w'.os = w.os ∧ w'.tape = w.tape ∧ w'.output = w.output) :
    Rel P cx.nt B M I0 G w0 E (upd s d v [(c, .mp t kk vk l' ck')]) (a.put d x) w' := by
  obtain ⟨hbs, hbI, hbM⟩ := h.loc c b hl
  have hlk : ∀ k, lkO ([(c, Chunk.mp t kk vk l' ck')] ++ s.mem) k = if c = k then some (.mp t kk vk l' ck') else lkO s.mem k := fun k => by rw [List.singleton_append, lkO_cons]
  have hI : ∀ k, E.I k → w'.heap[k]? = w.heap[k]? := fun k hk => ho k (fun e => hbI (e ▸ hk))
  have hmm : ∀ y u, CV E (lkO s.mem) w y u → CV E (lkO ([(c, Chunk.mp t kk vk l' ck')] ++ s.mem)) w' y u := fun y u hy => by
    refine CV.mono (E := E) (m := lkO s.mem) (w := w) (fun _ h => h) hI (fun k t' cs0 b' e1 e2 => ⟨?_, e2⟩) (fun k b' e1 e2 => ?_) (fun k v' e1 => ?_) hy
    · have hk : ¬ c = k := fun e => by subst e; rw [hm] at e1; cases e1
      exact ⟨t', cs0, by rw [hlk, if_neg hk]; exact e1⟩
    · rw [hlk]
      by_cases e : c = k
      · subst e
        rw [if_pos rfl, hm]
        exact ⟨fun _ => rfl, fun hc => (by cases hc), e2⟩
      · rw [if_neg e]; exact ⟨id, id, e2⟩
    · have hk : ¬ c = k := fun e => by subst e; rw [hm] at e1; simp [verOf] at e1
      exact ⟨v', by rw [hlk, if_neg hk]; exact e1, Nat.le_refl _, fun _ => ⟨rfl, fun _ h => h⟩⟩
  refine h.next hd ⟨hos.1, hos.2.1, hos.2.2, by omega, fun k hk hM => ho k (fun e => ?_)⟩ (fun _ h => h) (fun k hk => ⟨by have := (h.inew k hk).1; omega, (h.inew k hk).2⟩)
    (fun k b' hk => ?_) h.inj hmm (hmm _ _ hv) (fun k => ?_)
  · subst e
    rcases hbM with e1 | e1 | ⟨e1, _⟩
    · omega
    · exact hM e1
    · rw [hro] at e1; cases e1
  · obtain ⟨k1, k2, k3⟩ := h.loc k b' hk
    refine ⟨by omega, k2, ?_⟩
    rw [hlk]
    by_cases e : c = k
    · rw [if_pos e]
      subst e
      rcases k3 with k3 | k3 | k3
      · exact .inl k3
      · exact .inr (.inl k3)
      · exact .inr (.inr ⟨k3.1, rfl⟩)
    · rw [if_neg e]; exact k3
  · rw [hlk]
    by_cases e : c = k
    · subst e
      rw [if_pos rfl]
      exact ⟨b, hl, es, hb, h1.mono (fun _ h => h) hI, h2, h3⟩
    · rw [if_neg e]
      exact ChR.mono (E := E) (m := lkO s.mem) (w := w) (fun _ h => h) hI hmm rfl rfl (fun b' hb' => ho b' (fun e' => e (h.inj c k b hl (e' ▸ hb')))) (h.ch k)

theorem EsR.push {I : Nat → Prop} {kk vk : CK} {e : MapEntry} {v : SV} (he : EntR I w kk vk e v) : ∀ {es : List MapEntry} {l : List SV}, EsR I w kk vk es l → EsR I w kk vk (es ++ [e]) (l ++ [v])
  | [], [], _ => ⟨he, trivial⟩
  | _ :: _, _ :: _, ⟨h1, h2⟩ => ⟨h1, h2.push he⟩
theorem EsR.set {I : Nat → Prop} {kk vk : CK} {e : MapEntry} {v : SV} (he : EntR I w kk vk e v) : ∀ {es : List MapEntry} {l : List SV} (j : Nat), EsR I w kk vk es l → EsR I w kk vk (es.set j e) (l.set j v)
  | [], [], _, _ => trivial
  | _ :: _, _ :: _, 0, ⟨_, h2⟩ => ⟨he, h2⟩
  | _ :: _, _ :: _, j + 1, ⟨h1, h2⟩ => ⟨h1, h2.set he j⟩
theorem kkOk_of (hP : CxOk P cx) {t : Nat} {L : TyL} {kk : CK} (ht : tyOf cx t = some L) (hk : kkB L kk = true) : ∃ d, P.underlying t = some d ∧ KkOk d kk := by
  obtain ⟨d, h1, h2⟩ := (tyRun hP ht).desc
  refine ⟨d, h1, ?_⟩
  unfold kkB mpKk at hk
  cases hLk : L.k <;> rw [hLk] at hk h2 <;> (try dsimp only at hk) <;> try (cases hk; done)
  · rename_i k
    cases k <;> (try dsimp only at hk) <;> try (cases hk; done)
    rw [← ckEq_eq _ _ hk]
    cases d <;> first | exact h2.elim | (cases h2; rfl)
  · rw [← ckEq_eq _ _ hk]
    cases d <;> first | exact h2.elim | rfl
theorem kkOk_key {d : TypeDesc} {kk : CK} {k : SV} {x : Value} (hd : KkOk d kk) (hx : (∃ b, kk = .str ∧ k = .str b.data.toList ∧ x = .string b) ∨ (∃ n, kk = .int .i64 ∧ k = .int .i64 n ∧ x = .int .i64 n)) :
    MapKept.IsKey d x ∧ (∀ n, Instr.sameBits (n + 1) x x = true) ∧ kOk kk k := by
  rcases hx with ⟨b, rfl, rfl, rfl⟩ | ⟨n, rfl, rfl, rfl⟩
  · have hd : d = .string := hd
    subst hd
    exact ⟨trivial, fun n => by simp only [Instr.sameBits]; exact (MapKept.bytes_beq b b).2 rfl, _, rfl⟩
  · have hd : d = .int .i64 := hd
    subst hd
    exact ⟨rfl, fun n => by simp [Instr.sameBits], _, rfl⟩
theorem mpVal_ok {I : Nat → Prop} {vk : CK} {v : SV} (h : mpVal vk v = true) : kOk vk v ∧ closed v = true := by
  unfold mpVal at h
  split at h
  · exact ⟨⟨_, rfl⟩, rfl⟩
  · have := of_decide_eq_true h; subst this; exact ⟨⟨_, rfl⟩, rfl⟩
  · exact ⟨.inr (.inr ⟨_, rfl⟩), rfl⟩
  · exact ⟨.inl rfl, rfl⟩
  · exact ⟨.inr (.inl rfl), rfl⟩
  · cases h
theorem sh3 {kk vk : CK} {k v : SV} {n : Int} (h1 : kOk kk k) (h2 : kOk vk v) : shOk [kk, vk, .int .i64] (.agg [k, v, .int .i64 n]) := by
  refine ⟨rfl, fun j hj => ?_⟩
  match j, hj with
  | 0, _ => exact h1
  | 1, _ => exact h2
  | 2, _ => exact ⟨n, rfl⟩
theorem EsR_len {I : Nat → Prop} {kk vk : CK} : ∀ {es : List MapEntry} {l : List SV}, EsR I w kk vk es l → es.length = l.length
  | [], [], _ => rfl
  | _ :: _, _ :: _, ⟨_, h2⟩ => by simp [EsR_len h2]

theorem sound_put (hP : CxOk P cx) {t : Nat} {y z u : Operand} (ho : o.op = .mapUpdate t y z u ∨ o.op = .insert t y z u) : Sound cx P o := by
  intro B M I0 G w0 E s a w K Q h hd hob hK
  have e : opx cx s.mem (ev s.tm) o = putMap cx s.mem t (ev s.tm y) (ev s.tm z) (ev s.tm u) := by rcases ho with ho | ho <;> simp [opx, ho, opE]
  rw [e] at hob hK
  unfold putMap at hob hK
  have hy := h.eval y
  have hz := h.eval z
  have hu := h.eval u
  split at hob
  · rename_i c L hv ht
    simp only [hv, ht] at hK
    rw [hv] at hy
    split at hob
    · rename_i tk te t' kk vk l ck hk hm
      simp only [hk, hm] at hK
      split at hob
      · rename_i Lk hLk
        simp only [hLk] at hK
        cases hq : (kkB Lk kk && mpKey kk (ev s.tm z) && mpVal vk (ev s.tm u) && !(roK c)) with
        | false => simp only [hq] at hob; exact hob.elim
        | true =>
          simp only [hq] at hK
          simp only [Bool.and_eq_true, Bool.not_eq_true'] at hq
          obtain ⟨⟨⟨q1, q2⟩, q3⟩, q4⟩ := hq
          obtain ⟨b, e1, _, e3⟩ := hy.inv_mpp
          have hmap := h.ch c
          rw [hm] at hmap
          obtain ⟨b', hl, es, m1, m2, m3, m4⟩ := hmap
          rw [hl] at e3
          cases e3
          have hu2 := tyMap hP ht hk
          obtain ⟨d, d1, d2⟩ := kkOk_of hP hLk q1
          have hkey := mpKey_inv (I := E.I) q2 hz
          obtain ⟨i1, i2, i3⟩ := kkOk_key d2 hkey
          obtain ⟨v1, v2⟩ := mpVal_ok (I := E.I) q3
          have hvc := closed_conc _ _ v2 hu
          have hzc : Conc E.I w (a.eval z) (ev s.tm z) := closed_conc _ _ (by rcases hkey with ⟨_, _, e, _⟩ | ⟨_, _, e, _⟩ <;> rw [e] <;> rfl) hz
          have hck : (Instr.checkKey false 10000 tk (a.eval z)).run P w = .ok () w := MapKept.run_checkKey d1 i1 false 9999
          have hlen := EsR_len m2
          rcases find_eq (I := E.I) d2 hkey es.toList l 0 m2 with ⟨f1, f2⟩ | ⟨j, ee, v, g1, g2, g3, g4, g5, g6, g7⟩
          · have hrun : (execOp a.eval o).run P w = .ok .skip { w with heap := w.heap.setIfInBounds b (.map (es.push { key := a.eval z, val := a.eval u, born := ck }) (ck + 1)) } := by
              rcases ho with ho | ho <;>
              simp [execOp, ho, e1, Instr.mapUpdate, run_underlying hu2, MapKept.run_getObj_map m1, hck, MapKept.run_findKey d1 f2, MapKept.run_setObj_map _ m1, Result.andThen]
            unfold Oper.wp
            rw [hrun]
            have p1 : mpPut l ck (ev s.tm z) (ev s.tm u) = l ++ [.agg [ev s.tm z, ev s.tm u, .int .i64 ck]] := by unfold mpPut mpHas; rw [f1]; rfl
            have p2 : mpCk l ck (ev s.tm z) = ck + 1 := by unfold mpCk mpHas; rw [f1]; rfl
            rw [p1, p2] at hK
            have hbs := (h.loc c b hl).1
            refine hK E _ _ (h.mput (x := undef) (v := .und) (es := es.push { key := a.eval z, val := a.eval u, born := ck }) q4 hm hl ?_ ?_ ?_ (dOk_lt hd) (.conc _ _ .und) ?_ ?_ ?_ ⟨rfl, rfl, rfl⟩)
            · rw [Array.toList_push]
              exact EsR.push ⟨sh3 i3 v1, hzc, hvc, rfl⟩ m2
            · intro x hx
              rw [Array.toList_push, List.mem_append, List.mem_singleton] at hx
              rcases hx with hx | rfl
              · exact Nat.lt_succ_of_lt (m3 x hx)
              · exact Nat.lt_succ_self _
            · rw [Array.toList_push, List.map_append, List.pairwise_append]
              refine ⟨m4, by simp, fun x hx y hy => ?_⟩
              simp only [List.map_cons, List.map_nil, List.mem_singleton] at hy
              subst hy
              obtain ⟨e', he', rfl⟩ := List.mem_map.1 hx
              exact m3 e' he'
            · show (w.heap.setIfInBounds b _)[b]? = _
              rw [Array.getElem?_setIfInBounds_self_of_lt hbs]
            · intro k hk
              show (w.heap.setIfInBounds b _)[k]? = _
              rw [Array.getElem?_setIfInBounds_ne (fun e => hk e.symm)]
            · show (w.heap.setIfInBounds b _).size = _
              rw [Array.size_setIfInBounds]
          · rw [Nat.zero_add] at g6
            have g1' : es[j]? = some ee := by rw [← Array.getElem?_toList]; exact g1
            have hsb := i2 9999
            have hks : (Instr.keyThatStays (((es[j]?).map (·.key)).getD (a.eval z)) (a.eval z)).run P w = .ok (a.eval z) w := by
              rw [g1']
              show (Instr.keyThatStays ee.key (a.eval z)).run P w = _
              rw [g4]
              simp [Instr.keyThatStays, hsb]
            have hrun : (execOp a.eval o).run P w = .ok .skip { w with heap := w.heap.setIfInBounds b (.map (es.modify j fun e => { e with key := a.eval z, val := a.eval u }) ck) } := by
              rcases ho with ho | ho <;>
              simp [execOp, ho, e1, Instr.mapUpdate, run_underlying hu2, MapKept.run_getObj_map m1, hck, MapKept.run_findKey d1 g6, hks, MapKept.run_setObj_map _ m1, Result.andThen]
            unfold Oper.wp
            rw [hrun]
            have p1 : mpPut l ck (ev s.tm z) (ev s.tm u) = l.set j (.agg [v.cells.getD 0 .any, ev s.tm u, v.cells.getD 2 .any]) := by unfold mpPut mpHas; rw [g5]; exact g7 _
            have p2 : mpCk l ck (ev s.tm z) = ck := by unfold mpCk mpHas; rw [g5]; rfl
            rw [p1, p2] at hK
            have hbs := (h.loc c b hl).1
            have htl : (es.modify j fun e => { e with key := a.eval z, val := a.eval u }).toList = es.toList.set j { ee with key := a.eval z, val := a.eval u } := by
              apply List.ext_getElem?
              intro i
              rw [Array.getElem?_toList, Array.getElem?_modify, List.getElem?_set]
              by_cases hij : j = i
              · subst hij
                rw [if_pos rfl, if_pos rfl, g1']
                have : j < es.toList.length := (List.getElem?_eq_some_iff.1 g1).1
                rw [if_pos this]; rfl
              · rw [if_neg hij, if_neg hij, Array.getElem?_toList]
            refine hK E _ _ (h.mput (x := undef) (v := .und) (es := es.modify j fun e => { e with key := a.eval z, val := a.eval u }) q4 hm hl ?_ ?_ ?_ (dOk_lt hd) (.conc _ _ .und) ?_ ?_ ?_ ⟨rfl, rfl, rfl⟩)
            · rw [htl]
              obtain ⟨r1, r2, r3, r4⟩ := g3
              have hk0 : kOk kk (v.cells.getD 0 .any) := r1.2 0 (by simp)
              refine EsR.set (e := { ee with key := a.eval z, val := a.eval u }) (v := .agg [v.cells.getD 0 .any, ev s.tm u, v.cells.getD 2 .any]) ⟨?_, ?_, hvc, r4⟩ j m2
              · rw [r4]; exact sh3 hk0 v1
              · show Conc E.I w (a.eval z) (v.cells.getD 0 .any)
                rw [← g4]; exact r2
            · intro x hx
              rw [htl] at hx
              rcases List.mem_or_eq_of_mem_set hx with hx | rfl
              · exact m3 x hx
              · exact m3 ee (List.mem_of_getElem? g1)
            · rw [htl, List.map_set]
              have : (es.toList.map (·.born)).set j ee.born = es.toList.map (·.born) := by
                apply List.ext_getElem?
                intro i
                rw [List.getElem?_set]
                by_cases hij : j = i
                · subst hij
                  rw [if_pos rfl]
                  have hlt : j < es.toList.length := (List.getElem?_eq_some_iff.1 g1).1
                  rw [if_pos (by rw [List.length_map]; exact hlt), List.getElem?_map, g1]; rfl
                · rw [if_neg hij]
              rw [this]; exact m4
            · show (w.heap.setIfInBounds b _)[b]? = _
              rw [Array.getElem?_setIfInBounds_self_of_lt hbs]
            · intro k hk
              show (w.heap.setIfInBounds b _)[k]? = _
              rw [Array.getElem?_setIfInBounds_ne (fun e => hk e.symm)]
            · show (w.heap.setIfInBounds b _).size = _
              rw [Array.size_setIfInBounds]
      · exact hob.elim
    · exact hob.elim
  · exact hob.elim

theorem zero_conc {te : Nat} {Le : TyL} {vk : CK} {z : SV} (hL : TyOk P te Le) (hz : Le.zero = [z]) (h1 : mpVal vk z = true) (h2 : zB0 z = true) (I : Nat → Prop) (w : World) : ∃ x, (zeroValue te).run P w = .ok x w ∧ Conc I w x (coerce vk .any) := by
  unfold zB0 at h2
  split at h2
  · rename_i k
    obtain ⟨inf, i1, i2⟩ := hL.zv (.int k 0) (by rw [hz]; rfl)
    refine ⟨_, run_zero i1 i2 w, ?_⟩
    cases vk <;> simp only [mpVal] at h1 <;> first | (cases h1; done) | skip
    rw [of_decide_eq_true h1]
    exact .int _ _
  · obtain ⟨inf, i1, i2⟩ := hL.zv (.bool false) (by rw [hz]; rfl)
    refine ⟨_, run_zero i1 i2 w, ?_⟩
    cases vk <;> simp only [mpVal] at h1 <;> first | (cases h1; done) | skip
    exact .bool _
  · obtain ⟨inf, i1, i2⟩ := hL.zv (.string ⟨#[]⟩) (by rw [hz]; rfl)
    refine ⟨_, run_zero i1 i2 w, ?_⟩
    cases vk <;> simp only [mpVal] at h1 <;> first | (cases h1; done) | skip
    exact .str _ _ rfl
  · cases h2

theorem sound_lookup (hP : CxOk P cx) {t : Nat} {y z : Operand} {ok : Bool} (ho : o.op = .lookup t y z ok) : Sound cx P o := by
  intro B M I0 G w0 E s a w K Q h hd hob hK
  have e : opx cx s.mem (ev s.tm) o = lookMap cx s.mem t (ev s.tm y) (ev s.tm z) ok := by simp [opx, ho, opE]
  rw [e] at hob hK
  unfold lookMap at hob hK
  have hy := h.eval y
  have hz := h.eval z
  split at hob
  · rename_i c L hv ht
    simp only [hv, ht] at hK
    rw [hv] at hy
    split at hob
    · rename_i tk te t' kk vk l ck hk hm
      simp only [hk, hm] at hK
      split at hob
      · rename_i Lk Le hLk hLe
        simp only [hLk, hLe] at hK
        split at hob
        · rename_i zz hq hzz
          simp only [hq, hzz] at hK
          split at hob
          · rename_i hq2
            simp only [hq2] at hK
            simp only [Bool.and_eq_true] at hq hq2
            obtain ⟨⟨q1, q2⟩, q3⟩ := hq
            obtain ⟨b, e1, _, e3⟩ := hy.inv_mpp
            have hmap := h.ch c
            rw [hm] at hmap
            obtain ⟨b', hl, es, m1, m2, m3, m4⟩ := hmap
            rw [hl] at e3
            cases e3
            have hu2 := tyMap hP ht hk
            obtain ⟨d, d1, d2⟩ := kkOk_of hP hLk q1
            have hkey := mpKey_inv (I := E.I) q3 hz
            obtain ⟨i1, i2, i3⟩ := kkOk_key d2 hkey
            have hck : (Instr.checkKey es.isEmpty 10000 tk (a.eval z)).run P w = .ok () w := MapKept.run_checkKey d1 i1 _ 9999
            obtain ⟨zv, z1, z2⟩ := zero_conc (tyRun hP hLe) hzz hq2.1 hq2.2 E.I w
            have tup : ∀ (xv : Value) (sv : SV) (p : Bool), Conc E.I w xv sv → CV E (lkO s.mem) w (.tuple #[xv, .bool p]) (.tup [sv, .bool p]) := fun xv sv p hc =>
              .conc _ _ (.tup _ _ rfl (fun i => by
                match i with
                | 0 => exact hc
                | 1 => exact .bool p
                | i + 2 => simpa using Conc.any _))
            rcases find_eq (I := E.I) d2 hkey es.toList l 0 m2 with ⟨f1, f2⟩ | ⟨j, ee, v, g1, g2, g3, g4, g5, g6, g7⟩
            · have p1 : mpV l (ev s.tm z) = .any := by unfold mpV; rw [f1]; rfl
              have p2 : mpHas l (ev s.tm z) = false := by unfold mpHas; rw [f1]; rfl
              rw [p1, p2] at hK
              cases ok with
              | true => exact op_val h hd (x := .tuple #[zv, .bool false]) (by simp [execOp, ho, e1, Instr.lookup, run_underlying hu2, MapKept.run_getObj_map m1, hck, MapKept.run_findKey d1 f2, z1, Result.andThen]) (tup _ _ _ z2) hK
              | false => exact op_val h hd (x := zv) (by simp [execOp, ho, e1, Instr.lookup, run_underlying hu2, MapKept.run_getObj_map m1, hck, MapKept.run_findKey d1 f2, z1, Result.andThen]) (.conc _ _ z2) hK
            · have p1 : mpV l (ev s.tm z) = v.cells.getD 1 .any := by unfold mpV; rw [g5]; rfl
              have p2 : mpHas l (ev s.tm z) = true := by unfold mpHas; rw [g5]; rfl
              rw [p1, p2] at hK
              have hc : Conc E.I w ee.val (coerce vk (v.cells.getD 1 .any)) := g3.2.2.1.coerce (g3.1.2 1 (by simp))
              cases ok with
              | true => exact op_val h hd (x := .tuple #[ee.val, .bool true]) (by simp [execOp, ho, e1, Instr.lookup, run_underlying hu2, MapKept.run_getObj_map m1, hck, MapKept.run_findKey d1 g6, Result.andThen]) (tup _ _ _ hc) hK
              | false => exact op_val h hd (x := ee.val) (by simp [execOp, ho, e1, Instr.lookup, run_underlying hu2, MapKept.run_getObj_map m1, hck, MapKept.run_findKey d1 g6, Result.andThen]) (.conc _ _ hc) hK
          · exact hob.elim
        · exact hob.elim
      · exact hob.elim
    · exact hob.elim
  · exact hob.elim

theorem find_del {I : Nat → Prop} {kk vk : CK} {d : TypeDesc} {k : SV} {x : Value} (hd : KkOk d kk)
    (hx : (∃ b, kk = .str ∧ k = .str b.data.toList ∧ x = .string b) ∨ (∃ n, kk = .int .i64 ∧ k = .int .i64 n ∧ x = .int .i64 n)) :
    ∀ (es : List MapEntry) (l : List SV) (n : Nat), EsR I w kk vk es l →
      (Instr.findNow d x es n = some none ∧ mpDel l k = l) ∨ ∃ j y, j < es.length ∧ Instr.findNow d x es n = some (some (n + j, y)) ∧ mpDel l k = l.eraseIdx j
  | [], [], n, _ => .inl ⟨rfl, rfl⟩
  | e :: es, v :: l, n, ⟨h1, h2⟩ => by
    obtain ⟨e1, e2⟩ := sameNow_eq hd h1 hx
    simp only [mpDel, Instr.findNow, e1]
    cases hk : keyEq k (v.cells.getD 0 .any) with
    | true => exact .inr ⟨0, e.val, by simp, rfl, rfl⟩
    | false =>
      rcases find_del hd hx es l (n + 1) h2 with ⟨h3, h4⟩ | ⟨j, y, q1, q2, q3⟩
      · exact .inl ⟨h3, by dsimp only; rw [h4]⟩
      · exact .inr ⟨j + 1, y, by simp; exact q1, by dsimp only; rw [q2, Nat.add_right_comm, Nat.add_assoc], by dsimp only; rw [q3]; rfl⟩
theorem EsR.erase {I : Nat → Prop} {kk vk : CK} : ∀ {es : List MapEntry} {l : List SV} (j : Nat), EsR I w kk vk es l → EsR I w kk vk (es.eraseIdx j) (l.eraseIdx j)
  | [], [], _, _ => trivial
  | _ :: _, _ :: _, 0, ⟨_, h2⟩ => h2
  | _ :: _, _ :: _, j + 1, ⟨h1, h2⟩ => ⟨h1, h2.erase j⟩

theorem sound_delete (hP : CxOk P cx) {c : Call} (ho : o.op = .call c) (hc : c.callee = .builtin .delete) : Sound cx P o := by
  intro B M I0 G w0 E s a w K Q h hd hob hK
  have e : opx cx s.mem (ev s.tm) o = delMap cx s.mem c.argTypes.toList (c.args.toList.map (ev s.tm)) := by simp [opx, ho, opE, hc]
  rw [e] at hob hK
  generalize hargs : c.args.toList.map (ev s.tm) = args at hob hK
  generalize hts : c.argTypes.toList = ts at hob hK
  unfold delMap at hob hK
  split at hob
  · rename_i t t2 x k
    obtain ⟨xv, kv, e0, hy, hz⟩ := args_two h.eval hargs
    have e2 := list_two hts
    simp only at hK
    split at hob
    · rename_i c0 L ht
      simp only [ht] at hK
      split at hob
      · rename_i tk te t' kk vk l ck hk hm
        simp only [hk, hm] at hK
        split at hob
        · rename_i Lk hLk
          simp only [hLk] at hK
          cases hq : (kkB Lk kk && mpKey kk k && !(roK c0)) with
          | false => simp only [hq] at hob; exact hob.elim
          | true =>
            simp only [hq] at hK
            simp only [Bool.and_eq_true, Bool.not_eq_true'] at hq
            obtain ⟨⟨q1, q2⟩, q4⟩ := hq
            obtain ⟨b, e1, _, e3⟩ := hy.inv_mpp
            have hmap := h.ch c0
            rw [hm] at hmap
            obtain ⟨b', hl, es, m1, m2, m3, m4⟩ := hmap
            rw [hl] at e3
            cases e3
            have hu2 := tyMap hP ht hk
            obtain ⟨d, d1, d2⟩ := kkOk_of hP hLk q1
            have hkey := mpKey_inv (I := E.I) q2 hz
            obtain ⟨i1, i2, i3⟩ := kkOk_key d2 hkey
            have hck : (Instr.checkKey es.isEmpty 10000 tk kv).run P w = .ok () w := MapKept.run_checkKey d1 i1 _ 9999
            have hbs := (h.loc c0 b hl).1
            obtain ⟨cs, e5⟩ := builtin_run (P := P) (a := a) ho hc w
            have go : ∀ (es' : Array MapEntry) (l' : List SV), l' = mpDel l k → (Builtin.delete_ #[t, t2] o.type #[.map (some b), kv]).run P w = .ok (.tuple #[]) { w with heap := w.heap.setIfInBounds b (.map es' ck) } →
                EsR E.I w kk vk es'.toList l' → (∀ e, e ∈ es'.toList → e.born < ck) → (es'.toList.map (·.born)).Pairwise (· < ·) → Oper.wp P o a w K Q := by
              intro es' l' hl' hrun g1 g2 g3
              unfold Oper.wp
              rw [e5, e0, e2, e1]
              rw [← hl'] at hK
              simp only [builtin, Sem.run_bind, hrun, Result.andThen_ok, Sem.run_pure]
              refine hK E _ _ (h.mput (x := .tuple #[]) (v := .any) (es := es') q4 hm hl g1 g2 g3 (dOk_lt hd) (.conc _ _ (.any _)) ?_ ?_ ?_ ⟨rfl, rfl, rfl⟩)
              · show (w.heap.setIfInBounds b _)[b]? = _
                rw [Array.getElem?_setIfInBounds_self_of_lt hbs]
              · intro k hk
                show (w.heap.setIfInBounds b _)[k]? = _
                rw [Array.getElem?_setIfInBounds_ne (fun e => hk e.symm)]
              · show (w.heap.setIfInBounds b _).size = _
                rw [Array.size_setIfInBounds]
            rcases find_del (I := E.I) d2 hkey es.toList l 0 m2 with ⟨f1, f2⟩ | ⟨j, y, f0, f1, f2⟩
            · exact go es l f2.symm (by simp [Builtin.delete_, run_underlying hu2, MapKept.run_getObj_map m1, hck, MapKept.run_findKey d1 f1, MapKept.run_setObj_map _ m1, Result.andThen]) m2 m3 m4
            · rw [Nat.zero_add] at f1
              have htl : (es.eraseIdxIfInBounds j).toList = es.toList.eraseIdx j := by simp
              refine go (es.eraseIdxIfInBounds j) _ f2.symm (by simp [Builtin.delete_, run_underlying hu2, MapKept.run_getObj_map m1, hck, MapKept.run_findKey d1 f1, MapKept.run_setObj_map _ m1, Result.andThen]) ?_ ?_ ?_
              · rw [htl]; exact m2.erase j
              · intro e he
                rw [htl] at he
                exact m3 e (List.mem_of_mem_eraseIdx he)
              · rw [htl]
                exact m4.sublist ((List.eraseIdx_sublist _ _).map _)
        · exact hob.elim
      · exact hob.elim
    · exact hob.elim
  · exact hob.elim

/-- The stamp at a key. -/
theorem find_st {I : Nat → Prop} {kk vk : CK} {d : TypeDesc} {k : SV} {x : Value} (hd : KkOk d kk)
    (hx : (∃ b, kk = .str ∧ k = .str b.data.toList ∧ x = .string b) ∨ (∃ n, kk = .int .i64 ∧ k = .int .i64 n ∧ x = .int .i64 n)) (ck : Nat) :
    ∀ (es : List MapEntry) (l : List SV) (n : Nat), EsR I w kk vk es l →
      (Instr.findNow d x es n = some none → mpStK l ck k = ck) ∧ ∀ j y, Instr.findNow d x es n = some (some (n + j, y)) → ∃ e, es[j]? = some e ∧ mpStK l ck k = e.born
  | [], [], n, _ => ⟨fun _ => rfl, fun j y h => by simp [Instr.findNow] at h⟩
  | e :: es, v :: l, n, ⟨h1, h2⟩ => by
    obtain ⟨e1, e2⟩ := sameNow_eq hd h1 hx
    simp only [mpStK, Instr.findNow, e1]
    cases hk : keyEq k (v.cells.getD 0 .any) with
    | true =>
      refine ⟨fun h => by simp at h, fun j y h => ?_⟩
      simp only [Option.some.injEq, Prod.mk.injEq] at h
      obtain rfl : j = 0 := by omega
      refine ⟨e, rfl, ?_⟩
      rw [h1.2.2.2]; rfl
    | false =>
      obtain ⟨q1, q2⟩ := find_st hd hx ck es l (n + 1) h2
      refine ⟨q1, fun j y h => ?_⟩
      match j with
      | 0 =>
        exfalso
        rcases find_eq hd hx es l (n + 1) h2 with ⟨_, h3⟩ | ⟨i, _, _, _, _, _, _, _, h3, _⟩
        · dsimp only at h; rw [h3] at h; cases h
        · dsimp only at h; rw [h3] at h; simp only [Option.some.injEq, Prod.mk.injEq] at h; omega
      | j + 1 =>
        obtain ⟨e', w1, w2⟩ := q2 j y (by dsimp only at h; rw [show n + 1 + j = n + (j + 1) by omega]; exact h)
        exact ⟨e', by simpa using w1, w2⟩

/-- The entry of a stamp. -/
theorem find_bn {I : Nat → Prop} {kk vk : CK} (n : Nat) :
    ∀ (es : List MapEntry) (l : List SV), EsR I w kk vk es l → (mpAt l n = none ∧ es.findIdx? (fun e => (e.born : Int) == (n : Int)) = none) ∨
      ∃ j e v, es[j]? = some e ∧ l[j]? = some v ∧ EntR I w kk vk e v ∧ e.born = n ∧ mpAt l n = some v ∧ es.findIdx? (fun e => (e.born : Int) == (n : Int)) = some j ∧ ∀ u, mpSet l n u = l.set j (.agg [v.cells.getD 0 .any, u, v.cells.getD 2 .any])
  | [], [], _ => .inl ⟨rfl, rfl⟩
  | e :: es, v :: l, ⟨h1, h2⟩ => by
    have hb : (v.cells.getD 2 .any).toInt.toNat = e.born := by rw [h1.2.2.2]; rfl
    simp only [mpAt, mpSet, hb, List.findIdx?_cons]
    by_cases hn : e.born = n
    · right
      have h3 : ((e.born : Int) == (n : Int)) = true := by simp [hn]
      have h4 : Nat.beq e.born n = true := by rw [hn]; exact Nat.beq_refl n
      refine ⟨0, e, v, rfl, rfl, h1, hn, ?_, ?_, fun u => ?_⟩
      · rw [h4]
      · simp [h3]
      · rw [h4]; rfl
    · have h3 : ((e.born : Int) == (n : Int)) = false := by
        cases h : ((e.born : Int) == (n : Int)) with
        | false => rfl
        | true => exact absurd (Int.ofNat.inj (by simpa using h)) hn
      have h4 : Nat.beq e.born n = false := by
        cases h : Nat.beq e.born n with
        | false => rfl
        | true => exact absurd (Nat.eq_of_beq_eq_true h) hn
      rw [h4]
      simp only [h3]
      rcases find_bn n es l h2 with ⟨q1, q2⟩ | ⟨j, e', v', q1, q2, q3, q4, q5, q6, q7⟩
      · exact .inl ⟨q1, by simp [q2]⟩
      · exact .inr ⟨j + 1, e', v', q1, q2, q3, q4, q5, by simp [q6], fun u => by rw [q7 u]; rfl⟩

theorem sound_entMap (hP : CxOk P cx) {t : Nat} {y z : Operand} (ho : o.op = .mapEntry t y z) : Sound cx P o := by
  intro B M I0 G w0 E s a w K Q h hd hob hK
  have e : opx cx s.mem (ev s.tm) o = entMap cx s.mem t (ev s.tm y) (ev s.tm z) := by simp [opx, ho, opE]
  rw [e] at hob hK
  unfold entMap at hob hK
  have hy := h.eval y
  have hz := h.eval z
  split at hob
  · rename_i c L hv ht
    simp only [hv, ht] at hK
    rw [hv] at hy
    split at hob
    · rename_i tk te t' kk vk l ck hk hm
      simp only [hk, hm] at hK
      split at hob
      · rename_i Lk Le hLk hLe
        simp only [hLk, hLe] at hK
        split at hob
        · rename_i zz hq hzz
          simp only [hq, hzz] at hK
          split at hob
          · rename_i hq2
            simp only [hq2] at hK
            simp only [Bool.and_eq_true, Bool.not_eq_true'] at hq hq2
            obtain ⟨⟨⟨q1, q2⟩, q3⟩, q4⟩ := hq
            obtain ⟨b, e1, _, e3⟩ := hy.inv_mpp
            have hmap := h.ch c
            rw [hm] at hmap
            obtain ⟨b', hl, es, m1, m2, m3, m4⟩ := hmap
            rw [hl] at e3
            cases e3
            have hu2 := tyMap hP ht hk
            obtain ⟨d, d1, d2⟩ := kkOk_of hP hLk q1
            have hkey := mpKey_inv (I := E.I) q3 hz
            obtain ⟨i1, i2, i3⟩ := kkOk_key d2 hkey
            have hck : (Instr.checkKey false 10000 tk (a.eval z)).run P w = .ok () w := MapKept.run_checkKey d1 i1 false 9999
            have hzc : Conc E.I w (a.eval z) (ev s.tm z) := closed_conc _ _ (by rcases hkey with ⟨_, _, e, _⟩ | ⟨_, _, e, _⟩ <;> rw [e] <;> rfl) hz
            obtain ⟨zv, z1, z2⟩ := zero_conc (tyRun hP hLe) hzz hq2.1 hq2.2 E.I w
            have hbs := (h.loc c b hl).1
            obtain ⟨st1, st2⟩ := find_st (I := E.I) d2 hkey ck es.toList l 0 m2
            have tup : ∀ (xv : Value) (sv : SV) (n : Int), Conc E.I w xv sv → CV E (lkO s.mem) w (.tuple #[xv, .int .i64 n]) (.tup [sv, .int .i64 n]) := fun xv sv n hc =>
              .conc _ _ (.tup _ _ rfl (fun i => by
                match i with
                | 0 => exact hc
                | 1 => exact .int _ _
                | i + 2 => simpa using Conc.any _))
            rcases find_eq (I := E.I) d2 hkey es.toList l 0 m2 with ⟨f1, f2⟩ | ⟨j, ee, v, g1, g2, g3, g4, g5, g6, g7⟩
            · have p1 : mpV l (ev s.tm z) = .any := by unfold mpV; rw [f1]; rfl
              have p2 : mpEnt l ck vk (ev s.tm z) = l ++ [.agg [ev s.tm z, coerce vk .any, .int .i64 ck]] := by unfold mpEnt mpHas; rw [f1]; rfl
              have p3 : mpCk l ck (ev s.tm z) = ck + 1 := by unfold mpCk mpHas; rw [f1]; rfl
              have hrun : (execOp a.eval o).run P w = .ok (.value (.tuple #[zv, .int .i64 ck])) { w with heap := w.heap.setIfInBounds b (.map (es.push { key := a.eval z, val := zv, born := ck }) (ck + 1)) } := by
                simp [execOp, ho, e1, Instr.mapEntry, run_underlying hu2, MapKept.run_getObj_map m1, hck, MapKept.run_findKey d1 f2, z1, MapKept.run_setObj_map _ m1, Result.andThen, goInt]
              unfold Oper.wp
              rw [hrun]
              rw [p1, p2, p3, st1 f2] at hK
              have hvk : kOk vk (coerce vk .any) := by
                cases vk <;> first | exact ⟨_, rfl⟩ | exact ⟨_, _, rfl⟩ | exact .inr (.inr ⟨_, rfl⟩) | exact .inr ⟨_, rfl⟩ | trivial
              refine hK E _ _ (h.mput (x := .tuple #[zv, .int .i64 ck]) (es := es.push { key := a.eval z, val := zv, born := ck }) q4 hm hl ?_ ?_ ?_ (dOk_lt hd) (tup _ _ _ z2) ?_ ?_ ?_ ⟨rfl, rfl, rfl⟩)
              · rw [Array.toList_push]
                exact EsR.push ⟨sh3 i3 hvk, hzc, z2, rfl⟩ m2
              · intro x hx
                rw [Array.toList_push, List.mem_append, List.mem_singleton] at hx
                rcases hx with hx | rfl
                · exact Nat.lt_succ_of_lt (m3 x hx)
                · exact Nat.lt_succ_self _
              · rw [Array.toList_push, List.map_append, List.pairwise_append]
                refine ⟨m4, by simp, fun x hx y hy => ?_⟩
                simp only [List.map_cons, List.map_nil, List.mem_singleton] at hy
                subst hy
                obtain ⟨e', he', rfl⟩ := List.mem_map.1 hx
                exact m3 e' he'
              · show (w.heap.setIfInBounds b _)[b]? = _
                rw [Array.getElem?_setIfInBounds_self_of_lt hbs]
              · intro k hk
                show (w.heap.setIfInBounds b _)[k]? = _
                rw [Array.getElem?_setIfInBounds_ne (fun e => hk e.symm)]
              · show (w.heap.setIfInBounds b _).size = _
                rw [Array.size_setIfInBounds]
            · have p1 : mpV l (ev s.tm z) = v.cells.getD 1 .any := by unfold mpV; rw [g5]; rfl
              have p2 : mpEnt l ck vk (ev s.tm z) = l := by unfold mpEnt mpHas; rw [g5]; rfl
              have p3 : mpCk l ck (ev s.tm z) = ck := by unfold mpCk mpHas; rw [g5]; rfl
              obtain ⟨e5, g1b, st3⟩ := st2 j _ g6
              rw [g1] at g1b
              cases g1b
              rw [Nat.zero_add] at g6
              have g1' : es[j]? = some ee := by rw [← Array.getElem?_toList]; exact g1
              have hsb := i2 9999
              have hks : (Instr.keyThatStays (((es[j]?).map (·.key)).getD (a.eval z)) (a.eval z)).run P w = .ok (a.eval z) w := by
                rw [g1']
                show (Instr.keyThatStays ee.key (a.eval z)).run P w = _
                rw [g4]
                simp [Instr.keyThatStays, hsb]
              have hks' : (Instr.keyThatStays ee.key (a.eval z)).run P w = .ok (a.eval z) w := by
                rw [g4]
                simp [Instr.keyThatStays, hsb]
              have hrun : (execOp a.eval o).run P w = .ok (.value (.tuple #[ee.val, .int .i64 ee.born])) { w with heap := w.heap.setIfInBounds b (.map (es.modify j fun e => { e with key := a.eval z }) ck) } := by
                simp [execOp, ho, e1, Instr.mapEntry, run_underlying hu2, MapKept.run_getObj_map m1, hck, MapKept.run_findKey d1 g6, g1', hks', MapKept.run_setObj_map _ m1, Result.andThen, goInt]
              unfold Oper.wp
              rw [hrun]
              rw [p1, p2, p3, st3] at hK
              have hc : Conc E.I w ee.val (coerce vk (v.cells.getD 1 .any)) := g3.2.2.1.coerce (g3.1.2 1 (by simp))
              have htl : (es.modify j fun e => { e with key := a.eval z }).toList = es.toList := by
                apply List.ext_getElem?
                intro i
                rw [Array.getElem?_toList, Array.getElem?_modify]
                by_cases hij : j = i
                · subst hij
                  rw [if_pos rfl, g1', Array.getElem?_toList, g1']
                  show some { ee with key := a.eval z } = some ee
                  rw [← g4]
                · rw [if_neg hij, Array.getElem?_toList]
              refine hK E _ _ (h.mput (x := .tuple #[ee.val, .int .i64 ee.born]) (es := es.modify j fun e => { e with key := a.eval z }) q4 hm hl (by rw [htl]; exact m2) (by rw [htl]; exact m3) (by rw [htl]; exact m4) (dOk_lt hd) (tup _ _ _ hc) ?_ ?_ ?_ ⟨rfl, rfl, rfl⟩)
              · show (w.heap.setIfInBounds b _)[b]? = _
                rw [Array.getElem?_setIfInBounds_self_of_lt hbs]
              · intro k hk
                show (w.heap.setIfInBounds b _)[k]? = _
                rw [Array.getElem?_setIfInBounds_ne (fun e => hk e.symm)]
              · show (w.heap.setIfInBounds b _).size = _
                rw [Array.size_setIfInBounds]
          · exact hob.elim
        · exact hob.elim
      · exact hob.elim
    · exact hob.elim
  · exact hob.elim

theorem sound_stoMap {t : Nat} {y z u : Operand} (ho : o.op = .entryStore t y z u) : Sound cx P o := by
  intro B M I0 G w0 E s a w K Q h hd hob hK
  have e : opx cx s.mem (ev s.tm) o = stoMap s.mem (ev s.tm y) (ev s.tm z) (ev s.tm u) := by simp [opx, ho, opE]
  rw [e] at hob hK
  unfold stoMap at hob hK
  have hy := h.eval y
  have hz := h.eval z
  have hu := h.eval u
  split at hob
  · rename_i c n hv hn
    simp only [hv, hn] at hK
    rw [hv] at hy
    rw [hn] at hz
    split at hob
    · rename_i t' kk vk l ck hm
      simp only [hm] at hK
      cases hq : (mpVal vk (ev s.tm u) && !(roK c)) with
      | false => simp only [hq] at hob; exact hob.elim
      | true =>
        simp only [hq] at hK hob
        simp only [Bool.and_eq_true, Bool.not_eq_true'] at hq
        obtain ⟨⟨o1, o2⟩⟩ := hob
        obtain ⟨b, e1, _, e3⟩ := hy.inv_mpp
        have hmap := h.ch c
        rw [hm] at hmap
        obtain ⟨b', hl, es, m1, m2, m3, m4⟩ := hmap
        rw [hl] at e3
        cases e3
        obtain ⟨v1, v2⟩ := mpVal_ok (I := E.I) hq.1
        have hvc := closed_conc _ _ v2 hu
        have hbs := (h.loc c b hl).1
        rcases find_bn (I := E.I) n.toNat es.toList l m2 with ⟨f1, _⟩ | ⟨j, ee, v, g1, g2, g3, g4, g5, g6, g7⟩
        · rw [f1] at o2; cases o2
        · have g1' : es[j]? = some ee := by rw [← Array.getElem?_toList]; exact g1
          have hn' : ((n.toNat : Nat) : Int) = n := Int.toNat_of_nonneg o1
          rw [hn'] at g6
          have g6' : es.findIdx? (fun e => (e.born : Int) == n) = some j := by rw [show es = es.toList.toArray from rfl, List.findIdx?_toArray]; exact g6
          have hrun : (execOp a.eval o).run P w = .ok .skip { w with heap := w.heap.setIfInBounds b (.map (es.modify j fun e => { e with val := a.eval u }) ck) } := by
            simp [execOp, ho, e1, hz.inv_int, Instr.entryStore, MapKept.run_getObj_map m1, asInt, asIntOf, g6', MapKept.run_setObj_map _ m1, Result.andThen]
          unfold Oper.wp
          rw [hrun]
          rw [g7] at hK
          have htl : (es.modify j fun e => { e with val := a.eval u }).toList = es.toList.set j { ee with val := a.eval u } := by
            apply List.ext_getElem?
            intro i
            rw [Array.getElem?_toList, Array.getElem?_modify, List.getElem?_set]
            by_cases hij : j = i
            · subst hij
              rw [if_pos rfl, if_pos rfl, g1']
              have : j < es.toList.length := (List.getElem?_eq_some_iff.1 g1).1
              rw [if_pos this]; rfl
            · rw [if_neg hij, if_neg hij, Array.getElem?_toList]
          refine hK E _ _ (h.mput (x := undef) (v := .und) (es := es.modify j fun e => { e with val := a.eval u }) hq.2 hm hl ?_ ?_ ?_ (dOk_lt hd) (.conc _ _ .und) ?_ ?_ ?_ ⟨rfl, rfl, rfl⟩)
          · rw [htl]
            obtain ⟨r1, r2, r3, r4⟩ := g3
            have hk0 : kOk kk (v.cells.getD 0 .any) := r1.2 0 (by simp)
            refine EsR.set (e := { ee with val := a.eval u }) (v := .agg [v.cells.getD 0 .any, ev s.tm u, v.cells.getD 2 .any]) ⟨?_, r2, hvc, r4⟩ j m2
            rw [r4]; exact sh3 hk0 v1
          · intro x hx
            rw [htl] at hx
            rcases List.mem_or_eq_of_mem_set hx with hx | rfl
            · exact m3 x hx
            · exact m3 ee (List.mem_of_getElem? g1)
          · rw [htl, List.map_set]
            have : (es.toList.map (·.born)).set j ee.born = es.toList.map (·.born) := by
              apply List.ext_getElem?
              intro i
              rw [List.getElem?_set]
              by_cases hij : j = i
              · subst hij
                rw [if_pos rfl]
                have hlt : j < es.toList.length := (List.getElem?_eq_some_iff.1 g1).1
                rw [if_pos (by rw [List.length_map]; exact hlt), List.getElem?_map, g1]; rfl
              · rw [if_neg hij]
            rw [this]; exact m4
          · show (w.heap.setIfInBounds b _)[b]? = _
            rw [Array.getElem?_setIfInBounds_self_of_lt hbs]
          · intro k hk
            show (w.heap.setIfInBounds b _)[k]? = _
            rw [Array.getElem?_setIfInBounds_ne (fun e => hk e.symm)]
          · show (w.heap.setIfInBounds b _).size = _
            rw [Array.size_setIfInBounds]
    · exact hob.elim
  · exact hob.elim

theorem sound_range (hP : CxOk P cx) {t : Nat} {y : Operand} (ho : o.op = .range t y) : Sound cx P o := by
  intro B M I0 G w0 E s a w K Q h hd hob hK
  have e : opx cx s.mem (ev s.tm) o = rngMap cx s.mem o.dst t (ev s.tm y) := by simp [opx, ho, opE]
  rw [e] at hob hK
  unfold rngMap at hob hK
  have hy := h.eval y
  split at hob
  · rename_i c L d hv ht hdst
    simp only [hv, ht, hdst] at hK
    rw [hv] at hy
    split at hob
    · rename_i k e' t' kk vk l ck hk hm hfree
      simp only [hk, hm, hfree] at hK
      obtain ⟨b, e1, _, e3⟩ := hy.inv_mpp
      have hmap := h.ch c
      rw [hm] at hmap
      obtain ⟨b', hl, es, m1, m2, m3, m4⟩ := hmap
      rw [hl] at e3
      cases e3
      have hu2 := tyMap hP ht hk
      unfold Oper.wp
      have hrun : (execOp a.eval o).run P w = .ok (.value (.pointer (some ⟨w.heap.size, 0, none⟩))) (w.alloc (.mapIter (some b) ck #[] ck)) := by
        simp [execOp, ho, e1, Instr.range, run_underlying hu2, MapKept.run_getObj_map m1, Result.andThen]
      rw [hrun]
      have hne : ¬ (cx.off + d) = c := fun e => by rw [e, hm] at hfree; cases hfree
      refine hK (E.withBlock (cx.off + d) w.heap.size (.pointer (some ⟨w.heap.size, 0, none⟩))) _ _ ?_
      rw [hdst]
      refine h.alloc (dOk_lt hd d hdst) hfree rfl fun E' hE' hmm => ?_
      have hl' : lkO ([(cx.off + d, Chunk.it c ck [] ck)] ++ s.mem) (cx.off + d) = some (.it c ck [] ck) := by rw [List.singleton_append, lkO_cons, if_pos rfl]
      refine ⟨.itp _ w.heap.size (by rw [hl']; rfl) (by rw [hE']; simp [Env.withBlock]), w.heap.size, b, by rw [hE']; simp [Env.withBlock], ?_, heap_new w _⟩
      rw [← e1]
      exact hmm _ _ hy
    · exact hob.elim
  · exact hob.elim

theorem EsR.get {I : Nat → Prop} {kk vk : CK} : ∀ {es : List MapEntry} {l : List SV} (j : Nat) (e : MapEntry), EsR I w kk vk es l → es[j]? = some e → ∃ v, l[j]? = some v ∧ EntR I w kk vk e v
  | [], [], _, _, _, h => by cases h
  | e :: es, v :: l, 0, _, ⟨h1, _⟩, h => by cases h; exact ⟨v, rfl, h1⟩
  | e :: es, v :: l, j + 1, _, ⟨_, h2⟩, h => EsR.get j _ h2 h

theorem sound_itMap {y : Operand} (ho : o.op = .entry y) : Sound cx P o := by
  intro B M I0 G w0 E s a w K Q h hd hob hK
  have e : opx cx s.mem (ev s.tm) o = itMap s.mem (ev s.tm y) := by simp [opx, ho, opE]
  rw [e] at hob hK
  unfold itMap at hob hK
  have hy := h.eval y
  split at hob
  · rename_i c hv
    simp only [hv] at hK
    rw [hv] at hy
    split at hob
    · rename_i d since n sn last hm
      simp only [hm] at hK
      split at hob
      · rename_i t' kk vk l ck hm2
        simp only [hm2] at hK
        obtain ⟨⟨o1, o2⟩⟩ := hob
        subst o1
        obtain ⟨b, e1, _, e3⟩ := hy.inv_itp
        have hit := h.ch c
        rw [hm] at hit
        obtain ⟨b', db, hl, hmp, hheap⟩ := hit
        rw [hl] at e3
        cases e3
        obtain ⟨b2, e4, _, e5⟩ := hmp.inv_mpp
        cases e4
        have hmap := h.ch d
        rw [hm2] at hmap
        obtain ⟨b3, hl2, es, m1, m2, m3, m4⟩ := hmap
        rw [hl2] at e5
        cases e5
        rcases find_bn (I := E.I) n es.toList l m2 with ⟨f1, _⟩ | ⟨j, ee, v, g1, g2, g3, g4, g5, g6, g7⟩
        · rw [f1] at o2; cases o2
        · have hheap' : w.heap[b]? = some (.mapIter (some db) since (sn.reverse.toArray.push ee.born) last) := by
            rw [hheap, List.reverse_cons, List.push_toArray, g4]
          have hent := run_entry_at (P := P) w b db since sn.reverse.toArray es last ee hheap' m1 (List.mem_of_getElem? g1) (m4.imp (fun h => Nat.ne_of_lt h))
          rw [g5] at hK
          have c0 : Conc E.I w ee.key (coerce kk (v.cells.getD 0 .any)) := g3.2.1.coerce (g3.1.2 0 (by simp))
          have c1 : Conc E.I w ee.val (coerce vk (v.cells.getD 1 .any)) := g3.2.2.1.coerce (g3.1.2 1 (by simp))
          refine op_val h hd (x := .tuple #[ee.key, ee.val]) (by simp [execOp, ho, e1, hent, Result.andThen]) (.conc _ _ (.tup _ _ rfl (fun i => ?_))) hK
          match i with
          | 0 => exact c0
          | 1 => exact c1
          | i + 2 => simpa using Conc.any _
      · exact hob.elim
    · exact hob.elim
  · exact hob.elim

/-- An iterator of the function's own makes a step. -/
theorem Rel.iput {nt : Nat} (h : Rel P nt B M I0 G w0 E s a w) {c b d db since since' last last' : Nat} {sn sn' : List Nat} (hro : roK c = false) (hm : lkO s.mem c = some (.it d since sn last)) (hl : E.loc c = some b)
    (hd : CV E (lkO s.mem) w (.map (some db)) (.mpp d)) {w' : World}
    (hb : w'.heap[b]? = some (.mapIter (some db) since' sn'.reverse.toArray last')) (ho : ∀ k, k ≠ b → w'.heap[k]? = w.heap[k]?) (hsz : w'.heap.size = w.heap.size) (hos : w'.os = w.os ∧ w'.tape = w.tape ∧ w'.output = w.output) :
    (∀ y u, CV E (lkO s.mem) w y u → CV E (lkO ([(c, Chunk.it d since' sn' last')] ++ s.mem)) w' y u) ∧ Rel P nt B M I0 G w0 E ⟨s.tm, [(c, .it d since' sn' last')] ++ s.mem⟩ a w' := by
  obtain ⟨hbs, hbI, hbM⟩ := h.loc c b hl
  have hlk : ∀ k, lkO ([(c, Chunk.it d since' sn' last')] ++ s.mem) k = if c = k then some (.it d since' sn' last') else lkO s.mem k := fun k => by rw [List.singleton_append, lkO_cons]
  have hI : ∀ k, E.I k → w'.heap[k]? = w.heap[k]? := fun k hk => ho k (fun e => hbI (e ▸ hk))
  have hmm : ∀ y u, CV E (lkO s.mem) w y u → CV E (lkO ([(c, Chunk.it d since' sn' last')] ++ s.mem)) w' y u := fun y u hy => by
    refine CV.mono (E := E) (m := lkO s.mem) (w := w) (fun _ h => h) hI (fun k t' cs0 b' e1 e2 => ⟨?_, e2⟩) (fun k b' e1 e2 => ?_) (fun k v' e1 => ?_) hy
    · have hk : ¬ c = k := fun e => by subst e; rw [hm] at e1; cases e1
      exact ⟨t', cs0, by rw [hlk, if_neg hk]; exact e1⟩
    · rw [hlk]
      by_cases e : c = k
      · subst e
        rw [if_pos rfl, hm]
        exact ⟨fun hc => (by cases hc), fun _ => rfl, e2⟩
      · rw [if_neg e]; exact ⟨id, id, e2⟩
    · have hk : ¬ c = k := fun e => by subst e; rw [hm] at e1; simp [verOf] at e1
      exact ⟨v', by rw [hlk, if_neg hk]; exact e1, Nat.le_refl _, fun _ => ⟨rfl, fun _ h => h⟩⟩
  refine ⟨hmm, h.defers, h.tsize, h.fr.trans ⟨hos.1, hos.2.1, hos.2.2, by omega, fun k hk hM => ho k (fun e => ?_)⟩, by have := h.base; omega, h.i0, fun k hk => ⟨by have := (h.inew k hk).1; omega, (h.inew k hk).2⟩, fun k b' hk => ?_, h.inj, fun t => hmm _ _ (h.tm t), fun k => ?_, h.ld, h.gv⟩
  · subst e
    rcases hbM with e1 | e1 | ⟨e1, _⟩
    · omega
    · exact hM e1
    · rw [hro] at e1; cases e1
  · obtain ⟨k1, k2, k3⟩ := h.loc k b' hk
    refine ⟨by omega, k2, ?_⟩
    dsimp only
    rw [hlk]
    by_cases e : c = k
    · rw [if_pos e]
      subst e
      rcases k3 with k3 | k3 | k3
      · exact .inl k3
      · exact .inr (.inl k3)
      · exact .inr (.inr ⟨k3.1, rfl⟩)
    · rw [if_neg e]; exact k3
  · dsimp only
    rw [hlk]
    by_cases e : c = k
    · subst e
      rw [if_pos rfl]
      exact ⟨b, db, hl, hmm _ _ hd, hb⟩
    · rw [if_neg e]
      exact ChR.mono (E := E) (m := lkO s.mem) (w := w) (fun _ h => h) hI hmm rfl rfl (fun b' hb' => ho b' (fun e' => e (h.inj c k b hl (e' ▸ hb')))) (h.ch k)

theorem memN_iff (n : Nat) : ∀ l : List Nat, memN n l = true ↔ n ∈ l
  | [] => by simp [memN]
  | k :: r => by
    unfold memN
    rw [beqN]
    by_cases h : k = n
    · subst h; simp
    · rw [decide_eq_false h]
      dsimp only
      rw [memN_iff n r, List.mem_cons]
      constructor
      · exact .inr
      · rintro (h1 | h1)
        · exact absurd h1.symm h
        · exact h1

/-- The next step of an iterator, in whatever memory. -/
theorem next_run {nt : Nat} (h : Rel P nt B M I0 G w0 E s a w) {c : Nat} {b : Nat} (hl : E.loc c = some b) (hi : isIt (lkO s.mem c) = true) {K : SV → List (Nat × Chunk) → Prop} {g : Nat} (hT : nextT g [.itp c] s.mem K) (ty : Nat) :
    ∃ x w' r m', (Instr.next (.pointer (some ⟨b, 0, none⟩)) false ty).run P w = .ok x w' ∧ Rel P nt B M I0 G w0 E ⟨s.tm, m'⟩ a w' ∧ CV E (lkO m') w' x r ∧ K r m' := by
  obtain ⟨d, since, sn, last, hm⟩ := isIt_some hi
  unfold nextT at hT
  simp only [hm] at hT
  split at hT
  · rename_i t' kk vk l ck hm2 hro
    obtain ⟨⟨hsi, hla⟩, hT1, hT2⟩ := hT
    have hla' : last = since := hla.trans hsi.symm
    subst hla'
    subst hla
    have hit := h.ch c
    rw [hm] at hit
    obtain ⟨b', db, hl', hmp, hheap⟩ := hit
    rw [hl] at hl'
    cases hl'
    obtain ⟨b2, e4, _, e5⟩ := hmp.inv_mpp
    cases e4
    have hmap := h.ch d
    rw [hm2] at hmap
    obtain ⟨b3, hl2, es, m1, m2, m3, m4⟩ := hmap
    rw [hl2] at e5
    cases e5
    have hstamp : ∀ (j : Nat) (e : MapEntry), es.toList[j]? = some e → mpS l j = e.born ∧ mpAt l e.born = some (l.getD j .any) ∧ j < l.length ∧ EntR E.I w kk vk e (l.getD j .any) := fun j e he => by
      obtain ⟨v, hv, hE⟩ := EsR.get j e m2 he
      have hgd : l.getD j .any = v := by rw [List.getD_eq_getElem?_getD, hv]; rfl
      refine ⟨by unfold mpS elCell; rw [hgd, hE.2.2.2]; rfl, ?_, (List.getElem?_eq_some_iff.1 hv).1, by rw [hgd]; exact hE⟩
      rcases find_bn (I := E.I) e.born es.toList l m2 with ⟨f1, f2⟩ | ⟨i, ee, v', g1, g2, g3, g4, g5, g6, g7⟩
      · exfalso
        rw [List.findIdx?_eq_none_iff] at f2
        have := f2 e (List.mem_of_getElem? he)
        simp at this
      · have : i = j := by
          have hi := (List.getElem?_eq_some_iff.1 g1).1
          have hj := (List.getElem?_eq_some_iff.1 he).1
          rcases Nat.lt_trichotomy i j with q | q | q
          · have := List.pairwise_iff_getElem.1 m4 i j (by simpa using hi) (by simpa using hj) q
            rw [List.getElem_map, List.getElem_map, (List.getElem?_eq_some_iff.1 g1).2, (List.getElem?_eq_some_iff.1 he).2] at this
            omega
          · exact q
          · have := List.pairwise_iff_getElem.1 m4 j i (by simpa using hj) (by simpa using hi) q
            rw [List.getElem_map, List.getElem_map, (List.getElem?_eq_some_iff.1 g1).2, (List.getElem?_eq_some_iff.1 he).2] at this
            omega
        subst this
        rw [g5, ← g2]
        rw [List.getD_eq_getElem?_getD, g2]; rfl
    rcases run_next_at (P := P) w ty b db _ _ sn.reverse.toArray es _ hheap m1 m3 (Nat.le_refl _) with ⟨n1, n2⟩ | ⟨e, he, w1, hw1, n2⟩
    · refine ⟨_, w, _, s.mem, n2, h, .conc _ _ (.tup _ _ rfl (fun i => ?_)), hT2 (fun j hj => ?_)⟩
      · match i with
        | 0 => exact .ff
        | i + 1 => simpa using Conc.any _
      · rw [memN_iff]
        have hjs : j < es.toList.length := by rw [EsR_len m2]; exact hj
        obtain ⟨s1, _⟩ := hstamp j _ (List.getElem?_eq_getElem hjs)
        rw [s1]
        apply Classical.byContradiction
        intro hc
        have : es.toList[j] ∈ (leftOf es sn.reverse.toArray).toList := by
          simp [leftOf]
          simpa using hc
        rw [← Array.length_toList] at n1
        rw [List.eq_nil_of_length_eq_zero n1] at this
        cases this
    · have hmem : e ∈ es.toList ∧ ¬ e.born ∈ sn := by
        simp [leftOf] at he
        exact ⟨by simpa using he.1, by simpa using he.2⟩
      obtain ⟨j, hj⟩ := List.mem_iff_getElem?.1 hmem.1
      obtain ⟨s1, s2, s3, s4⟩ := hstamp j e hj
      have h1 : Rel P nt B M I0 G w0 E s a w1 := by
        rcases hw1 with rfl | rfl
        · exact h
        · exact h.drew
      have hw1h : w1.heap = w.heap := by rcases hw1 with rfl | rfl <;> rfl
      have hbs := (h.loc c b hl).1
      have hmp1 := h1.ch c
      rw [hm] at hmp1
      obtain ⟨b5, db5, hl5, hmp5, hheap5⟩ := hmp1
      rw [hl] at hl5
      cases hl5
      rw [hw1h, hheap] at hheap5
      cases hheap5
      obtain ⟨hmm, hrel⟩ := h1.iput (c := c) (b := b) (since' := last) (last' := last) (sn' := e.born :: sn) hro hm hl hmp5 (w' := ChangeMaps.setBlock w1 b (.mapIter (some db) last (sn.reverse.toArray.push e.born) last))
        (by show (w1.heap.setIfInBounds b _)[b]? = _; rw [Array.getElem?_setIfInBounds_self_of_lt (by rw [hw1h]; exact hbs)]; simp)
        (fun k hk => by show (w1.heap.setIfInBounds b _)[k]? = _; rw [Array.getElem?_setIfInBounds_ne (fun e => hk e.symm)])
        (by show (w1.heap.setIfInBounds b _).size = _; rw [Array.size_setIfInBounds]) ⟨rfl, rfl, rfl⟩
      refine ⟨_, _, _, _, n2, hrel, ?_, by
        have := hT1 j s3 (by rw [s1]; cases hq : memN e.born sn with
          | false => rfl
          | true => exact absurd ((memN_iff _ _).1 hq) hmem.2) (by rw [s1]; exact s2)
        rw [s1] at this; exact this⟩
      have mono : ∀ y u, Conc E.I w y u → CV E (lkO s.mem) w1 y u := fun y u hy => .conc _ _ (hy.mono (fun _ h => h) (fun k _ => by rw [hw1h]))
      refine hmm _ _ (.tup _ _ rfl (fun i => ?_))
      match i with
      | 0 => exact .conc _ _ .tt
      | 1 => exact mono _ _ (s4.2.1.coerce (s4.1.2 0 (by simp)))
      | 2 => exact mono _ _ (s4.2.2.1.coerce (s4.1.2 1 (by simp)))
      | i + 3 => exact .conc _ _ (by simpa using Conc.any _)
  · exact hT.elim
end
end Go.Rx

