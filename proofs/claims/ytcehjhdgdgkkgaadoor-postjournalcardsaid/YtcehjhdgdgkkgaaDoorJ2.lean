/- The framework, part 14m: maps of the function's own. -/
import Derived.Test.YtcehjhdgdgkkgaaDoorJ1
import Derived.MapKept
import Derived.Maps.RangeRun
import Derived.Laws.OwnMore
namespace Go.Rx
set_option linter.unusedSectionVars false
set_option linter.unusedSimpArgs false
set_option linter.unusedVariables false
open Go.RowKit
section
variable {cx : Cx} {P : Program} [Laid P] {B : Nat} {M I0 : Nat → Prop} {G : Nat → Value} {w0 : World} {E : Env} {s : St} {a : Act} {w : World} {o : Oper}

/-- The kind of a map's keys, as the program has it. -/
def KkOk (d : TypeDesc) : CK → Prop
  | .str => d = .string
  | .int .i64 => d = .int .i64
  | _ => False

theorem mpKey_inv {I : Nat → Prop} {kk : CK} {k : SV} {x : Value} (h : mpKey kk k = true) (hx : CV E (lkO s.mem) w x k) : (∃ b, kk = .str ∧ k = .str b.data.toList ∧ x = .string b) ∨ (∃ n, kk = .int .i64 ∧ k = .int .i64 n ∧ x = .int .i64 n) := by
  unfold mpKey at h
  split at h
  · obtain ⟨b, rfl, e⟩ := hx.inv_str
    exact .inl ⟨b, rfl, by rw [e], rfl⟩
  · exact .inr ⟨_, rfl, rfl, hx.inv_int⟩
  · cases h

theorem sameNow_eq {I : Nat → Prop} {kk vk : CK} {d : TypeDesc} {e : MapEntry} {v k : SV} {x : Value} (hd : KkOk d kk) (he : EntR I w kk vk e v)
    (hx : (∃ b, kk = .str ∧ k = .str b.data.toList ∧ x = .string b) ∨ (∃ n, kk = .int .i64 ∧ k = .int .i64 n ∧ x = .int .i64 n)) :
    Instr.sameNow d x e.key = some (keyEq k (v.cells.getD 0 .any)) ∧ (keyEq k (v.cells.getD 0 .any) = true → e.key = x) := by
  obtain ⟨h1, h2, h3, h4⟩ := he
  have hk0 : kOk kk (v.cells.getD 0 .any) := h1.2 0 (by simp)
  rcases hx with ⟨b, rfl, rfl, rfl⟩ | ⟨n, rfl, rfl, rfl⟩
  · obtain ⟨s, hs⟩ := hk0
    rw [hs] at h2 ⊢
    have hd : d = .string := hd
    subst hd
    cases hkey : e.key <;> rw [hkey] at h2 <;> cases h2
    rename_i b' e'
    subst e'
    have hbeq : (b == b') = decide (b.data.toList = b'.data.toList) := by
      by_cases hb : b = b'
      · subst hb; rw [(MapKept.bytes_beq b b).2 rfl]; simp
      · have h5 : ¬ b.data.toList = b'.data.toList := fun hc => hb (by
          cases b; cases b'; simp only [ByteArray.mk.injEq]; exact Array.toList_inj.1 hc)
        have h6 : (b == b') = false := by
          cases h7 : (b == b') with
          | false => rfl
          | true => exact absurd ((MapKept.bytes_beq b b').1 h7) hb
        rw [h6, decide_eq_false h5]
    refine ⟨by simp only [Instr.sameNow, keyEq, hbeq], fun hh => ?_⟩
    simp only [keyEq] at hh
    rw [← hbeq] at hh
    rw [(MapKept.bytes_beq b b').1 hh]
  · obtain ⟨s, hs⟩ := hk0
    rw [hs] at h2 ⊢
    have hd : d = .int .i64 := hd
    subst hd
    cases hkey : e.key <;> rw [hkey] at h2 <;> cases h2
    refine ⟨by simp [Instr.sameNow, keyEq, BEq.beq], fun hh => ?_⟩
    simp only [keyEq, decide_eq_true_eq] at hh
    rw [hh]

/-- What is found at a key. -/
theorem find_eq {I : Nat → Prop} {kk vk : CK} {d : TypeDesc} {k : SV} {x : Value} (hd : KkOk d kk)
    (hx : (∃ b, kk = .str ∧ k = .str b.data.toList ∧ x = .string b) ∨ (∃ n, kk = .int .i64 ∧ k = .int .i64 n ∧ x = .int .i64 n)) :
    ∀ (es : List MapEntry) (l : List SV) (n : Nat), EsR I w kk vk es l →
      (mpGet l k = none ∧ Instr.findNow d x es n = some none) ∨
      ∃ j e v, es[j]? = some e ∧ l[j]? = some v ∧ EntR I w kk vk e v ∧ e.key = x ∧ mpGet l k = some (v.cells.getD 1 .any) ∧ Instr.findNow d x es n = some (some (n + j, e.val)) ∧
        ∀ u, mpMod l k u = l.set j (.agg [v.cells.getD 0 .any, u, v.cells.getD 2 .any])
  | [], [], n, _ => .inl ⟨rfl, rfl⟩
  | e :: es, v :: l, n, ⟨h1, h2⟩ => by
    obtain ⟨e1, e2⟩ := sameNow_eq hd h1 hx
    simp only [mpGet, mpMod, Instr.findNow, e1]
    cases hk : keyEq k (v.cells.getD 0 .any) with
    | true => exact .inr ⟨0, e, v, rfl, rfl, h1, e2 hk, rfl, rfl, fun u => rfl⟩
    | false =>
      rcases find_eq hd hx es l (n + 1) h2 with h3 | ⟨j, e', v', q1, q2, q3, q4, q5, q6, q7⟩
      · exact .inl h3
      · exact .inr ⟨j + 1, e', v', q1, q2, q3, q4, q5, by dsimp only; rw [q6, Nat.add_right_comm, Nat.add_assoc], fun u => by dsimp only; rw [q7 u]; rfl⟩

theorem tyMap (hP : CxOk P cx) {t : Nat} {L : TyL} (ht : tyOf cx t = some L) {k e : Nat} (hk : L.k = .mp k e) : P.underlying t = some (.map k e) := by
  obtain ⟨d, h1, h2⟩ := (tyRun hP ht).desc
  rw [hk] at h2
  cases d <;> first | exact h2.elim | (obtain ⟨rfl, rfl⟩ := h2; exact h1)

/-- A new map. -/
theorem sound_makeMap (hP : CxOk P cx) {t : Nat} (ho : o.op = .makeMap t none) : Sound cx P o := by
  intro B M I0 G w0 E s a w K Q h hd hob hK
  have e : opx cx s.mem (ev s.tm) o = mkMap cx s.mem o.dst t := by simp [opx, ho, opE]
  rw [e] at hob hK
  unfold mkMap at hob hK
  split at hob
  · rename_i d L hdst ht
    simp only [hdst, ht] at hK
    split at hob
    · rename_i k e' hk
      simp only [hk] at hK
      split at hob
      · rename_i Lk Le hLk hLe
        simp only [hLk, hLe] at hK
        split at hob
        · rename_i kk vk q1 q2 hfree
          simp only [q1, q2, hfree] at hK
          unfold Oper.wp
          have hrun : (execOp a.eval o).run P w = .ok (.value (.map (some w.heap.size))) (w.alloc (.map #[] 0)) := by
            simp [execOp, ho, Instr.makeMap]
          rw [hrun]
          refine hK (E.withBlock (cx.off + d) w.heap.size (.map (some w.heap.size))) _ _ ?_
          rw [hdst]
          refine h.alloc (dOk_lt hd d hdst) hfree rfl fun E' hE' hm => ?_
          have hl : lkO ([(cx.off + d, Chunk.mp t kk vk [] 0)] ++ s.mem) (cx.off + d) = some (.mp t kk vk [] 0) := by rw [List.singleton_append, lkO_cons, if_pos rfl]
          exact ⟨.mpp _ w.heap.size (by rw [hl]; rfl) (by rw [hE']; simp [Env.withBlock]), w.heap.size, by rw [hE']; simp [Env.withBlock], #[], heap_new w _, trivial, ⟨fun e he => (by cases he), List.Pairwise.nil⟩⟩
        · exact hob.elim
      · exact hob.elim
    · exact hob.elim
  · exact hob.elim
/-- A map of the function's own is written. -/
theorem Rel.mput (h : Rel P cx.nt B M I0 G w0 E s a w) {c b t : Nat} {kk vk : CK} {l l' : List SV} {ck ck' : Nat} (hro : roK c = false) (hm : lkO s.mem c = some (.mp t kk vk l ck)) (hl : E.loc c = some b) {es : Array MapEntry}
    (h1 : EsR E.I w kk vk es.toList l') (h2 : ∀ e, e ∈ es.toList → e.born < ck') (h3 : (es.toList.map (·.born)).Pairwise (· < ·)) {d : Option Nat} (hd : ∀ k, d = some k → k < cx.nt) {x : Value} {v : SV} (hv : CV E (lkO s.mem) w x v) {w' : World}
    (hb : w'.heap[b]? = some (.map es ck')) (ho : ∀ k, k ≠ b → w'.heap[k]? = w.heap[k]?) (hsz : w'.heap.size = w.heap.size) (hos : w'.os = w.os ∧ w'.tape = w.tape ∧ w'.output = w.output) :
    Rel P cx.nt B M I0 G w0 E (upd s d v [(c, .mp t kk vk l' ck')]) (a.put d x) w' := by
  obtain ⟨hbs, hbI, hbM⟩ := h.loc c b hl
  have hlk : ∀ k, lkO ([(c, Chunk.mp t kk vk l' ck')] ++ s.mem) k = if c = k then some (.mp t kk vk l' ck') else lkO s.mem k := fun k => by rw [List.singleton_append, lkO_cons]
  have hI : ∀ k, E.I k → w'.heap[k]? = w.heap[k]? := fun k hk => ho k (fun e => hbI (e ▸ hk))
  have hmm : ∀ y u, CV E (lkO s.mem) w y u → CV E (lkO ([(c, Chunk.mp t kk vk l' ck')] ++ s.mem)) w' y u := fun y u hy => by
    refine CV.mono (E := E) (m := lkO s.mem) (w := w) (fun _ h => h) hI (fun k t' cs0 b' e1 e2 => ⟨?_, e2⟩) (fun k b' e1 e2 => ?_) (fun k v' e1 => ?_) hy
    · have hk : ¬ c = k := fun e => by subst e; rw [hm] at e1; cases e1
      exact ⟨t', cs0, by rw [hlk, if_neg hk]; exact e1⟩
    · rw [hlk]
      by_cases e : c = k
      · subst e
        rw [if_pos rfl, hm]
        exact ⟨fun _ => rfl, fun hc => (by cases hc), e2⟩
      · rw [if_neg e]; exact ⟨id, id, e2⟩
    · have hk : ¬ c = k := fun e => by subst e; rw [hm] at e1; simp [verOf] at e1
      exact ⟨v', by rw [hlk, if_neg hk]; exact e1, Nat.le_refl _, fun _ => ⟨rfl, fun _ h => h⟩⟩
  refine h.next hd ⟨hos.1, hos.2.1, hos.2.2, by omega, fun k hk hM => ho k (fun e => ?_)⟩ (fun _ h => h) (fun k hk => ⟨by have := (h.inew k hk).1; omega, (h.inew k hk).2⟩)
    (fun k b' hk => ?_) h.inj hmm (hmm _ _ hv) (fun k => ?_)
  · subst e
    rcases hbM with e1 | e1 | ⟨e1, _⟩
    · omega
    · exact hM e1
    · rw [hro] at e1; cases e1
  · obtain ⟨k1, k2, k3⟩ := h.loc k b' hk
    refine ⟨by omega, k2, ?_⟩
    rw [hlk]
    by_cases e : c = k
    · rw [if_pos e]
      subst e
      rcases k3 with k3 | k3 | k3
      · exact .inl k3
      · exact .inr (.inl k3)
      · exact .inr (.inr ⟨k3.1, rfl⟩)
    · rw [if_neg e]; exact k3
  · rw [hlk]
    by_cases e : c = k
    · subst e
      rw [if_pos rfl]
      exact ⟨b, hl, es, hb, h1.mono (fun _ h => h) hI, h2, h3⟩
    · rw [if_neg e]
      exact ChR.mono (E := E) (m := lkO s.mem) (w := w) (fun _ h => h) hI hmm rfl rfl (fun b' hb' => ho b' (fun e' => e (h.inj c k b hl (e' ▸ hb')))) (h.ch k)

theorem EsR.push {I : Nat → Prop} {kk vk : CK} {e : MapEntry} {v : SV} (he : EntR I w kk vk e v) : ∀ {es : List MapEntry} {l : List SV}, EsR I w kk vk es l → EsR I w kk vk (es ++ [e]) (l ++ [v])
  | [], [], _ => ⟨he, trivial⟩
  | _ :: _, _ :: _, ⟨h1, h2⟩ => ⟨h1, h2.push he⟩
theorem EsR.set {I : Nat → Prop} {kk vk : CK} {e : MapEntry} {v : SV} (he : EntR I w kk vk e v) : ∀ {es : List MapEntry} {l : List SV} (j : Nat), EsR I w kk vk es l → EsR I w kk vk (es.set j e) (l.set j v)
  | [], [], _, _ => trivial
  | _ :: _, _ :: _, 0, ⟨_, h2⟩ => ⟨he, h2⟩
  | _ :: _, _ :: _, j + 1, ⟨h1, h2⟩ => ⟨h1, h2.set he j⟩
theorem kkOk_of (hP : CxOk P cx) {t : Nat} {L : TyL} {kk : CK} (ht : tyOf cx t = some L) (hk : kkB L kk = true) : ∃ d, P.underlying t = some d ∧ KkOk d kk := by
  obtain ⟨d, h1, h2⟩ := (tyRun hP ht).desc
  refine ⟨d, h1, ?_⟩
  unfold kkB mpKk at hk
  cases hLk : L.k <;> rw [hLk] at hk h2 <;> (try dsimp only at hk) <;> try (cases hk; done)
  · rename_i k
    cases k <;> (try dsimp only at hk) <;> try (cases hk; done)
    rw [← ckEq_eq _ _ hk]
    cases d <;> first | exact h2.elim | (cases h2; rfl)
  · rw [← ckEq_eq _ _ hk]
    cases d <;> first | exact h2.elim | rfl
theorem kkOk_key {d : TypeDesc} {kk : CK} {k : SV} {x : Value} (hd : KkOk d kk) (hx : (∃ b, kk = .str ∧ k = .str b.data.toList ∧ x = .string b) ∨ (∃ n, kk = .int .i64 ∧ k = .int .i64 n ∧ x = .int .i64 n)) :
    MapKept.IsKey d x ∧ (∀ n, Instr.sameBits (n + 1) x x = true) ∧ kOk kk k := by
  rcases hx with ⟨b, rfl, rfl, rfl⟩ | ⟨n, rfl, rfl, rfl⟩
  · have hd : d = .string := hd
    subst hd
    exact ⟨trivial, fun n => by simp only [Instr.sameBits]; exact (MapKept.bytes_beq b b).2 rfl, _, rfl⟩
  · have hd : d = .int .i64 := hd
    subst hd
    exact ⟨rfl, fun n => by simp [Instr.sameBits], _, rfl⟩
theorem mpVal_ok {I : Nat → Prop} {vk : CK} {v : SV} (h : mpVal vk v = true) : kOk vk v ∧ closed v = true := by
  unfold mpVal at h
  split at h
  · exact ⟨⟨_, rfl⟩, rfl⟩
  · have := of_decide_eq_true h; subst this; exact ⟨⟨_, rfl⟩, rfl⟩
  · exact ⟨.inr (.inr ⟨_, rfl⟩), rfl⟩
  · exact ⟨.inl rfl, rfl⟩
  · exact ⟨.inr (.inl rfl), rfl⟩
  · cases h
theorem sh3 {kk vk : CK} {k v : SV} {n : Int} (h1 : kOk kk k) (h2 : kOk vk v) : shOk [kk, vk, .int .i64] (.agg [k, v, .int .i64 n]) := by
  refine ⟨rfl, fun j hj => ?_⟩
  match j, hj with
  | 0, _ => exact h1
  | 1, _ => exact h2
  | 2, _ => exact ⟨n, rfl⟩
theorem EsR_len {I : Nat → Prop} {kk vk : CK} : ∀ {es : List MapEntry} {l : List SV}, EsR I w kk vk es l → es.length = l.length
  | [], [], _ => rfl
  | _ :: _, _ :: _, ⟨_, h2⟩ => by simp [EsR_len h2]

theorem sound_put (hP : CxOk P cx) {t : Nat} {y z u : Operand} (ho : o.op = .mapUpdate t y z u ∨ o.op = .insert t y z u) : Sound cx P o := by
  intro B M I0 G w0 E s a w K Q h hd hob hK
  have e : opx cx s.mem (ev s.tm) o = putMap cx s.mem t (ev s.tm y) (ev s.tm z) (ev s.tm u) := by rcases ho with ho | ho <;> simp [opx, ho, opE]
  rw [e] at hob hK
  unfold putMap at hob hK
  have hy := h.eval y
  have hz := h.eval z
  have hu := h.eval u
  split at hob
  · rename_i c L hv ht
    simp only [hv, ht] at hK
    rw [hv] at hy
    split at hob
    · rename_i tk te t' kk vk l ck hk hm
      simp only [hk, hm] at hK
      split at hob
      · rename_i Lk hLk
        simp only [hLk] at hK
        cases hq : (kkB Lk kk && mpKey kk (ev s.tm z) && mpVal vk (ev s.tm u) && !(roK c)) with
        | false => simp only [hq] at hob; exact hob.elim
        | true =>
          simp only [hq] at hK
          simp only [Bool.and_eq_true, Bool.not_eq_true'] at hq
          obtain ⟨⟨⟨q1, q2⟩, q3⟩, q4⟩ := hq
          obtain ⟨b, e1, _, e3⟩ := hy.inv_mpp
          have hmap := h.ch c
          rw [hm] at hmap
          obtain ⟨b', hl, es, m1, m2, m3, m4⟩ := hmap
          rw [hl] at e3
          cases e3
          have hu2 := tyMap hP ht hk
          obtain ⟨d, d1, d2⟩ := kkOk_of hP hLk q1
          have hkey := mpKey_inv (I := E.I) q2 hz
          obtain ⟨i1, i2, i3⟩ := kkOk_key d2 hkey
          obtain ⟨v1, v2⟩ := mpVal_ok (I := E.I) q3
          have hvc := closed_conc _ _ v2 hu
          have hzc : Conc E.I w (a.eval z) (ev s.tm z) := closed_conc _ _ (by rcases hkey with ⟨_, _, e, _⟩ | ⟨_, _, e, _⟩ <;> rw [e] <;> rfl) hz
          have hck : (Instr.checkKey false 10000 tk (a.eval z)).run P w = .ok () w := MapKept.run_checkKey d1 i1 false 9999
          have hlen := EsR_len m2
          rcases find_eq (I := E.I) d2 hkey es.toList l 0 m2 with ⟨f1, f2⟩ | ⟨j, ee, v, g1, g2, g3, g4, g5, g6, g7⟩
          · have hrun : (execOp a.eval o).run P w = .ok .skip { w with heap := w.heap.setIfInBounds b (.map (es.push { key := a.eval z, val := a.eval u, born := ck }) (ck + 1)) } := by
              rcases ho with ho | ho <;>
              simp [execOp, ho, e1, Instr.mapUpdate, run_underlying hu2, MapKept.run_getObj_map m1, hck, MapKept.run_findKey d1 f2, MapKept.run_setObj_map _ m1, Result.andThen]
            unfold Oper.wp
            rw [hrun]
            have p1 : mpPut l ck (ev s.tm z) (ev s.tm u) = l ++ [.agg [ev s.tm z, ev s.tm u, .int .i64 ck]] := by unfold mpPut mpHas; rw [f1]; rfl
            have p2 : mpCk l ck (ev s.tm z) = ck + 1 := by unfold mpCk mpHas; rw [f1]; rfl
            rw [p1, p2] at hK
            have hbs := (h.loc c b hl).1
            refine hK E _ _ (h.mput (x := undef) (v := .und) (es := es.push { key := a.eval z, val := a.eval u, born := ck }) q4 hm hl ?_ ?_ ?_ (dOk_lt hd) (.conc _ _ .und) ?_ ?_ ?_ ⟨rfl, rfl, rfl⟩)
            · rw [Array.toList_push]
              exact EsR.push ⟨sh3 i3 v1, hzc, hvc, rfl⟩ m2
            · intro x hx
              rw [Array.toList_push, List.mem_append, List.mem_singleton] at hx
              rcases hx with hx | rfl
              · exact Nat.lt_succ_of_lt (m3 x hx)
              · exact Nat.lt_succ_self _
            · rw [Array.toList_push, List.map_append, List.pairwise_append]
              refine ⟨m4, by simp, fun x hx y hy => ?_⟩
              simp only [List.map_cons, List.map_nil, List.mem_singleton] at hy
              subst hy
              obtain ⟨e', he', rfl⟩ := List.mem_map.1 hx
              exact m3 e' he'
            · show (w.heap.setIfInBounds b _)[b]? = _
              rw [Array.getElem?_setIfInBounds_self_of_lt hbs]
            · intro k hk
              show (w.heap.setIfInBounds b _)[k]? = _
              rw [Array.getElem?_setIfInBounds_ne (fun e => hk e.symm)]
            · show (w.heap.setIfInBounds b _).size = _
              rw [Array.size_setIfInBounds]
          · rw [Nat.zero_add] at g6
            have g1' : es[j]? = some ee := by rw [← Array.getElem?_toList]; exact g1
            have hsb := i2 9999
            have hks : (Instr.keyThatStays (((es[j]?).map (·.key)).getD (a.eval z)) (a.eval z)).run P w = .ok (a.eval z) w := by
              rw [g1']
              show (Instr.keyThatStays ee.key (a.eval z)).run P w = _
              rw [g4]
              simp [Instr.keyThatStays, hsb]
            have hrun : (execOp a.eval o).run P w = .ok .skip { w with heap := w.heap.setIfInBounds b (.map (es.modify j fun e => { e with key := a.eval z, val := a.eval u }) ck) } := by
              rcases ho with ho | ho <;>
              simp [execOp, ho, e1, Instr.mapUpdate, run_underlying hu2, MapKept.run_getObj_map m1, hck, MapKept.run_findKey d1 g6, hks, MapKept.run_setObj_map _ m1, Result.andThen]
            unfold Oper.wp
            rw [hrun]
            have p1 : mpPut l ck (ev s.tm z) (ev s.tm u) = l.set j (.agg [v.cells.getD 0 .any, ev s.tm u, v.cells.getD 2 .any]) := by unfold mpPut mpHas; rw [g5]; exact g7 _
            have p2 : mpCk l ck (ev s.tm z) = ck := by unfold mpCk mpHas; rw [g5]; rfl
            rw [p1, p2] at hK
            have hbs := (h.loc c b hl).1
            have htl : (es.modify j fun e => { e with key := a.eval z, val := a.eval u }).toList = es.toList.set j { ee with key := a.eval z, val := a.eval u } := by
              apply List.ext_getElem?
              intro i
              rw [Array.getElem?_toList, Array.getElem?_modify, List.getElem?_set]
              by_cases hij : j = i
              · subst hij
                rw [if_pos rfl, if_pos rfl, g1']
                have : j < es.toList.length := (List.getElem?_eq_some_iff.1 g1).1
                rw [if_pos this]; rfl
              · rw [if_neg hij, if_neg hij, Array.getElem?_toList]
            refine hK E _ _ (h.mput (x := undef) (v := .und) (es := es.modify j fun e => { e with key := a.eval z, val := a.eval u }) q4 hm hl ?_ ?_ ?_ (dOk_lt hd) (.conc _ _ .und) ?_ ?_ ?_ ⟨rfl, rfl, rfl⟩)
            · rw [htl]
              obtain ⟨r1, r2, r3, r4⟩ := g3
              have hk0 : kOk kk (v.cells.getD 0 .any) := r1.2 0 (by simp)
              refine EsR.set (e := { ee with key := a.eval z, val := a.eval u }) (v := .agg [v.cells.getD 0 .any, ev s.tm u, v.cells.getD 2 .any]) ⟨?_, ?_, hvc, r4⟩ j m2
              · rw [r4]; exact sh3 hk0 v1
              · show Conc E.I w (a.eval z) (v.cells.getD 0 .any)
                rw [← g4]; exact r2
            · intro x hx
              rw [htl] at hx
              rcases List.mem_or_eq_of_mem_set hx with hx | rfl
              · exact m3 x hx
              · exact m3 ee (List.mem_of_getElem? g1)
            · rw [htl, List.map_set]
              have : (es.toList.map (·.born)).set j ee.born = es.toList.map (·.born) := by
                apply List.ext_getElem?
                intro i
                rw [List.getElem?_set]
                by_cases hij : j = i
                · subst hij
                  rw [if_pos rfl]
                  have hlt : j < es.toList.length := (List.getElem?_eq_some_iff.1 g1).1
                  rw [if_pos (by rw [List.length_map]; exact hlt), List.getElem?_map, g1]; rfl
                · rw [if_neg hij]
              rw [this]; exact m4
            · show (w.heap.setIfInBounds b _)[b]? = _
              rw [Array.getElem?_setIfInBounds_self_of_lt hbs]
            · intro k hk
              show (w.heap.setIfInBounds b _)[k]? = _
              rw [Array.getElem?_setIfInBounds_ne (fun e => hk e.symm)]
            · show (w.heap.setIfInBounds b _).size = _
              rw [Array.size_setIfInBounds]
      · exact hob.elim
    · exact hob.elim
  · exact hob.elim

theorem zero_conc {te : Nat} {Le : TyL} {vk : CK} {z : SV} (hL : TyOk P te Le) (hz : Le.zero = [z]) (h1 : mpVal vk z = true) (h2 : zB0 z = true) (I : Nat → Prop) (w : World) : ∃ x, (zeroValue te).run P w = .ok x w ∧ Conc I w x (coerce vk .any) := by
  unfold zB0 at h2
  split at h2
  · rename_i k
    obtain ⟨inf, i1, i2⟩ := hL.zv (.int k 0) (by rw [hz]; rfl)
    refine ⟨_, run_zero i1 i2 w, ?_⟩
    cases vk <;> simp only [mpVal] at h1 <;> first | (cases h1; done) | skip
    rw [of_decide_eq_true h1]
    exact .int _ _
  · obtain ⟨inf, i1, i2⟩ := hL.zv (.bool false) (by rw [hz]; rfl)
    refine ⟨_, run_zero i1 i2 w, ?_⟩
    cases vk <;> simp only [mpVal] at h1 <;> first | (cases h1; done) | skip
    exact .bool _
  · obtain ⟨inf, i1, i2⟩ := hL.zv (.string ⟨#[]⟩) (by rw [hz]; rfl)
    refine ⟨_, run_zero i1 i2 w, ?_⟩
    cases vk <;> simp only [mpVal] at h1 <;> first | (cases h1; done) | skip
    exact .str _ _ rfl
  · cases h2

theorem sound_lookup (hP : CxOk P cx) {t : Nat} {y z : Operand} {ok : Bool} (ho : o.op = .lookup t y z ok) : Sound cx P o := by
  intro B M I0 G w0 E s a w K Q h hd hob hK
  have e : opx cx s.mem (ev s.tm) o = lookMap cx s.mem t (ev s.tm y) (ev s.tm z) ok := by simp [opx, ho, opE]
  rw [e] at hob hK
  unfold lookMap at hob hK
  have hy := h.eval y
  have hz := h.eval z
  split at hob
  · rename_i c L hv ht
    simp only [hv, ht] at hK
    rw [hv] at hy
    split at hob
    · rename_i tk te t' kk vk l ck hk hm
      simp only [hk, hm] at hK
      split at hob
      · rename_i Lk Le hLk hLe
        simp only [hLk, hLe] at hK
        split at hob
        · rename_i zz hq hzz
          simp only [hq, hzz] at hK
          split at hob
          · rename_i hq2
            simp only [hq2] at hK
            simp only [Bool.and_eq_true] at hq hq2
            obtain ⟨⟨q1, q2⟩, q3⟩ := hq
            obtain ⟨b, e1, _, e3⟩ := hy.inv_mpp
            have hmap := h.ch c
            rw [hm] at hmap
            obtain ⟨b', hl, es, m1, m2, m3, m4⟩ := hmap
            rw [hl] at e3
            cases e3
            have hu2 := tyMap hP ht hk
            obtain ⟨d, d1, d2⟩ := kkOk_of hP hLk q1
            have hkey := mpKey_inv (I := E.I) q3 hz
            obtain ⟨i1, i2, i3⟩ := kkOk_key d2 hkey
            have hck : (Instr.checkKey es.isEmpty 10000 tk (a.eval z)).run P w = .ok () w := MapKept.run_checkKey d1 i1 _ 9999
            obtain ⟨zv, z1, z2⟩ := zero_conc (tyRun hP hLe) hzz hq2.1 hq2.2 E.I w
            have tup : ∀ (xv : Value) (sv : SV) (p : Bool), Conc E.I w xv sv → CV E (lkO s.mem) w (.tuple #[xv, .bool p]) (.tup [sv, .bool p]) := fun xv sv p hc =>
              .conc _ _ (.tup _ _ rfl (fun i => by
                match i with
                | 0 => exact hc
                | 1 => exact .bool p
                | i + 2 => simpa using Conc.any _))
            rcases find_eq (I := E.I) d2 hkey es.toList l 0 m2 with ⟨f1, f2⟩ | ⟨j, ee, v, g1, g2, g3, g4, g5, g6, g7⟩
            · have p1 : mpV l (ev s.tm z) = .any := by unfold mpV; rw [f1]; rfl
              have p2 : mpHas l (ev s.tm z) = false := by unfold mpHas; rw [f1]; rfl
              rw [p1, p2] at hK
              cases ok with
              | true => exact op_val h hd (x := .tuple #[zv, .bool false]) (by simp [execOp, ho, e1, Instr.lookup, run_underlying hu2, MapKept.run_getObj_map m1, hck, MapKept.run_findKey d1 f2, z1, Result.andThen]) (tup _ _ _ z2) hK
              | false => exact op_val h hd (x := zv) (by simp [execOp, ho, e1, Instr.lookup, run_underlying hu2, MapKept.run_getObj_map m1, hck, MapKept.run_findKey d1 f2, z1, Result.andThen]) (.conc _ _ z2) hK
            · have p1 : mpV l (ev s.tm z) = v.cells.getD 1 .any := by unfold mpV; rw [g5]; rfl
              have p2 : mpHas l (ev s.tm z) = true := by unfold mpHas; rw [g5]; rfl
              rw [p1, p2] at hK
              have hc : Conc E.I w ee.val (coerce vk (v.cells.getD 1 .any)) := g3.2.2.1.coerce (g3.1.2 1 (by simp))
              cases ok with
              | true => exact op_val h hd (x := .tuple #[ee.val, .bool true]) (by simp [execOp, ho, e1, Instr.lookup, run_underlying hu2, MapKept.run_getObj_map m1, hck, MapKept.run_findKey d1 g6, Result.andThen]) (tup _ _ _ hc) hK
              | false => exact op_val h hd (x := ee.val) (by simp [execOp, ho, e1, Instr.lookup, run_underlying hu2, MapKept.run_getObj_map m1, hck, MapKept.run_findKey d1 g6, Result.andThen]) (.conc _ _ hc) hK
          · exact hob.elim
        · exact hob.elim
      · exact hob.elim
    · exact hob.elim
  · exact hob.elim

theorem find_del {I : Nat → Prop} {kk vk : CK} {d : TypeDesc} {k : SV} {x : Value} (hd : KkOk d kk)
    (hx : (∃ b, kk = .str ∧ k = .str b.data.toList ∧ x = .string b) ∨ (∃ n, kk = .int .i64 ∧ k = .int .i64 n ∧ x = .int .i64 n)) :
    ∀ (es : List MapEntry) (l : List SV) (n : Nat), EsR I w kk vk es l →
      (Instr.findNow d x es n = some none ∧ mpDel l k = l) ∨ ∃ j y, j < es.length ∧ Instr.findNow d x es n = some (some (n + j, y)) ∧ mpDel l k = l.eraseIdx j
  | [], [], n, _ => .inl ⟨rfl, rfl⟩
  | e :: es, v :: l, n, ⟨h1, h2⟩ => by
    obtain ⟨e1, e2⟩ := sameNow_eq hd h1 hx
    simp only [mpDel, Instr.findNow, e1]
    cases hk : keyEq k (v.cells.getD 0 .any) with
    | true => exact .inr ⟨0, e.val, by simp, rfl, rfl⟩
    | false =>
      rcases find_del hd hx es l (n + 1) h2 with ⟨h3, h4⟩ | ⟨j, y, q1, q2, q3⟩
      · exact .inl ⟨h3, by dsimp only; rw [h4]⟩
      · exact .inr ⟨j + 1, y, by simp; exact q1, by dsimp only; rw [q2, Nat.add_right_comm, Nat.add_assoc], by dsimp only; rw [q3]; rfl⟩
theorem EsR.erase {I : Nat → Prop} {kk vk : CK} : ∀ {es : List MapEntry} {l : List SV} (j : Nat), EsR I w kk vk es l → EsR I w kk vk (es.eraseIdx j) (l.eraseIdx j)
  | [], [], _, _ => trivial
  | _ :: _, _ :: _, 0, ⟨_, h2⟩ => h2
  | _ :: _, _ :: _, j + 1, ⟨h1, h2⟩ => ⟨h1, h2.erase j⟩

theorem sound_delete (hP : CxOk P cx) {c : Call} (ho : o.op = .call c) (hc : c.callee = .builtin .delete) : Sound cx P o := by
  intro B M I0 G w0 E s a w K Q h hd hob hK
  have e : opx cx s.mem (ev s.tm) o = delMap cx s.mem c.argTypes.toList (c.args.toList.map (ev s.tm)) := by simp [opx, ho, opE, hc]
  rw [e] at hob hK
  generalize hargs : c.args.toList.map (ev s.tm) = args at hob hK
  generalize hts : c.argTypes.toList = ts at hob hK
  unfold delMap at hob hK
  split at hob
  · rename_i t t2 x k
    obtain ⟨xv, kv, e0, hy, hz⟩ := args_two h.eval hargs
    have e2 := list_two hts
    simp only at hK
    split at hob
    · rename_i c0 L ht
      simp only [ht] at hK
      split at hob
      · rename_i tk te t' kk vk l ck hk hm
        simp only [hk, hm] at hK
        split at hob
        · rename_i Lk hLk
          simp only [hLk] at hK
          cases hq : (kkB Lk kk && mpKey kk k && !(roK c0)) with
          | false => simp only [hq] at hob; exact hob.elim
          | true =>
            simp only [hq] at hK
            simp only [Bool.and_eq_true, Bool.not_eq_true'] at hq
            obtain ⟨⟨q1, q2⟩, q4⟩ := hq
            obtain ⟨b, e1, _, e3⟩ := hy.inv_mpp
            have hmap := h.ch c0
            rw [hm] at hmap
            obtain ⟨b', hl, es, m1, m2, m3, m4⟩ := hmap
            rw [hl] at e3
            cases e3
            have hu2 := tyMap hP ht hk
            obtain ⟨d, d1, d2⟩ := kkOk_of hP hLk q1
            have hkey := mpKey_inv (I := E.I) q2 hz
            obtain ⟨i1, i2, i3⟩ := kkOk_key d2 hkey
            have hck : (Instr.checkKey es.isEmpty 10000 tk kv).run P w = .ok () w := MapKept.run_checkKey d1 i1 _ 9999
            have hbs := (h.loc c0 b hl).1
            obtain ⟨cs, e5⟩ := builtin_run (P := P) (a := a) ho hc w
            have go : ∀ (es' : Array MapEntry) (l' : List SV), l' = mpDel l k → (Builtin.delete_ #[t, t2] o.type #[.map (some b), kv]).run P w = .ok (.tuple #[]) { w with heap := w.heap.setIfInBounds b (.map es' ck) } →
                EsR E.I w kk vk es'.toList l' → (∀ e, e ∈ es'.toList → e.born < ck) → (es'.toList.map (·.born)).Pairwise (· < ·) → Oper.wp P o a w K Q := by
              intro es' l' hl' hrun g1 g2 g3
              unfold Oper.wp
              rw [e5, e0, e2, e1]
              rw [← hl'] at hK
              simp only [builtin, Sem.run_bind, hrun, Result.andThen_ok, Sem.run_pure]
              refine hK E _ _ (h.mput (x := .tuple #[]) (v := .any) (es := es') q4 hm hl g1 g2 g3 (dOk_lt hd) (.conc _ _ (.any _)) ?_ ?_ ?_ ⟨rfl, rfl, rfl⟩)
              · show (w.heap.setIfInBounds b _)[b]? = _
                rw [Array.getElem?_setIfInBounds_self_of_lt hbs]
              · intro k hk
                show (w.heap.setIfInBounds b _)[k]? = _
                rw [Array.getElem?_setIfInBounds_ne (fun e => hk e.symm)]
              · show (w.heap.setIfInBounds b _).size = _
                rw [Array.size_setIfInBounds]
            rcases find_del (I := E.I) d2 hkey es.toList l 0 m2 with ⟨f1, f2⟩ | ⟨j, y, f0, f1, f2⟩
            · exact go es l f2.symm (by simp [Builtin.delete_, run_underlying hu2, MapKept.run_getObj_map m1, hck, MapKept.run_findKey d1 f1, MapKept.run_setObj_map _ m1, Result.andThen]) m2 m3 m4
            · rw [Nat.zero_add] at f1
              have htl : (es.eraseIdxIfInBounds j).toList = es.toList.eraseIdx j := by simp
              refine go (es.eraseIdxIfInBounds j) _ f2.symm (by simp [Builtin.delete_, run_underlying hu2, MapKept.run_getObj_map m1, hck, MapKept.run_findKey d1 f1, MapKept.run_setObj_map _ m1, Result.andThen]) ?_ ?_ ?_
              · rw [htl]; exact m2.erase j
              · intro e he
                rw [htl] at he
                exact m3 e (List.mem_of_mem_eraseIdx he)
              · rw [htl]
                exact m4.sublist ((List.eraseIdx_sublist _ _).map _)
        · exact hob.elim
      · exact hob.elim
    · exact hob.elim
  · exact hob.elim

/-- The stamp at a key. -/
theorem find_st {I : Nat → Prop} {kk vk : CK} {d : TypeDesc} {k : SV} {x : Value} (hd : KkOk d kk)
    (hx : (∃ b, kk = .str ∧ k = .str b.data.toList ∧ x = .string b) ∨ (∃ n, kk = .int .i64 ∧ k = .int .i64 n ∧ x = .int .i64 n)) (ck : Nat) :
    ∀ (es : List MapEntry) (l : List SV) (n : Nat), EsR I w kk vk es l →
      (Instr.findNow d x es n = some none → mpStK l ck k = ck) ∧ ∀ j y, Instr.findNow d x es n = some (some (n + j, y)) → ∃ e, es[j]? = some e ∧ mpStK l ck k = e.born
  | [], [], n, _ => ⟨fun _ => rfl, fun j y h => by simp [Instr.findNow] at h⟩
  | e :: es, v :: l, n, ⟨h1, h2⟩ => by
    obtain ⟨e1, e2⟩ := sameNow_eq hd h1 hx
    simp only [mpStK, Instr.findNow, e1]
    cases hk : keyEq k (v.cells.getD 0 .any) with
    | true =>
      refine ⟨fun h => by simp at h, fun j y h => ?_⟩
      simp only [Option.some.injEq, Prod.mk.injEq] at h
      obtain rfl : j = 0 := by omega
      refine ⟨e, rfl, ?_⟩
      rw [h1.2.2.2]; rfl
    | false =>
      obtain ⟨q1, q2⟩ := find_st hd hx ck es l (n + 1) h2
      refine ⟨q1, fun j y h => ?_⟩
      match j with
      | 0 =>
        exfalso
        rcases find_eq hd hx es l (n + 1) h2 with ⟨_, h3⟩ | ⟨i, _, _, _, _, _, _, _, h3, _⟩
        · dsimp only at h; rw [h3] at h; cases h
        · dsimp only at h; rw [h3] at h; simp only [Option.some.injEq, Prod.mk.injEq] at h; omega
      | j + 1 =>
        obtain ⟨e', w1, w2⟩ := q2 j y (by dsimp only at h; rw [show n + 1 + j = n + (j + 1) by omega]; exact h)
        exact ⟨e', by simpa using w1, w2⟩

/-- The entry of a stamp. -/
theorem find_bn {I : Nat → Prop} {kk vk : CK} (n : Nat) :
    ∀ (es : List MapEntry) (l : List SV), EsR I w kk vk es l → (mpAt l n = none ∧ es.findIdx? (fun e => (e.born : Int) == (n : Int)) = none) ∨
      ∃ j e v, es[j]? = some e ∧ l[j]? = some v ∧ EntR I w kk vk e v ∧ e.born = n ∧ mpAt l n = some v ∧ es.findIdx? (fun e => (e.born : Int) == (n : Int)) = some j ∧ ∀ u, mpSet l n u = l.set j (.agg [v.cells.getD 0 .any, u, v.cells.getD 2 .any])
  | [], [], _ => .inl ⟨rfl, rfl⟩
  | e :: es, v :: l, ⟨h1, h2⟩ => by
    have hb : (v.cells.getD 2 .any).toInt.toNat = e.born := by rw [h1.2.2.2]; rfl
    simp only [mpAt, mpSet, hb, List.findIdx?_cons]
    by_cases hn : e.born = n
    · right
      have h3 : ((e.born : Int) == (n : Int)) = true := by simp [hn]
      have h4 : Nat.beq e.born n = true := by rw [hn]; exact Nat.beq_refl n
      refine ⟨0, e, v, rfl, rfl, h1, hn, ?_, ?_, fun u => ?_⟩
      · rw [h4]
      · simp [h3]
      · rw [h4]; rfl
    · have h3 : ((e.born : Int) == (n : Int)) = false := by
        cases h : ((e.born : Int) == (n : Int)) with
        | false => rfl
        | true => exact absurd (Int.ofNat.inj (by simpa using h)) hn
      have h4 : Nat.beq e.born n = false := by
        cases h : Nat.beq e.born n with
        | false => rfl
        | true => exact absurd (Nat.eq_of_beq_eq_true h) hn
      rw [h4]
      simp only [h3]
      rcases find_bn n es l h2 with ⟨q1, q2⟩ | ⟨j, e', v', q1, q2, q3, q4, q5, q6, q7⟩
      · exact .inl ⟨q1, by simp [q2]⟩
      · exact .inr ⟨j + 1, e', v', q1, q2, q3, q4, q5, by simp [q6], fun u => by rw [q7 u]; rfl⟩

theorem sound_entMap (hP : CxOk P cx) {t : Nat} {y z : Operand} (ho : o.op = .mapEntry t y z) : Sound cx P o := by
  intro B M I0 G w0 E s a w K Q h hd hob hK
  have e : opx cx s.mem (ev s.tm) o = entMap cx s.mem t (ev s.tm y) (ev s.tm z) := by simp [opx, ho, opE]
  rw [e] at hob hK
  unfold entMap at hob hK
  have hy := h.eval y
  have hz := h.eval z
  split at hob
  · rename_i c L hv ht
    simp only [hv, ht] at hK
    rw [hv] at hy
    split at hob
    · rename_i tk te t' kk vk l ck hk hm
      simp only [hk, hm] at hK
      split at hob
      · rename_i Lk Le hLk hLe
        simp only [hLk, hLe] at hK
        split at hob
        · rename_i zz hq hzz
          simp only [hq, hzz] at hK
          split at hob
          · rename_i hq2
            simp only [hq2] at hK
            simp only [Bool.and_eq_true, Bool.not_eq_true'] at hq hq2
            obtain ⟨⟨⟨q1, q2⟩, q3⟩, q4⟩ := hq
            obtain ⟨b, e1, _, e3⟩ := hy.inv_mpp
            have hmap := h.ch c
            rw [hm] at hmap
            obtain ⟨b', hl, es, m1, m2, m3, m4⟩ := hmap
            rw [hl] at e3
            cases e3
            have hu2 := tyMap hP ht hk
            obtain ⟨d, d1, d2⟩ := kkOk_of hP hLk q1
            have hkey := mpKey_inv (I := E.I) q3 hz
            obtain ⟨i1, i2, i3⟩ := kkOk_key d2 hkey
            have hck : (Instr.checkKey false 10000 tk (a.eval z)).run P w = .ok () w := MapKept.run_checkKey d1 i1 false 9999
            have hzc : Conc E.I w (a.eval z) (ev s.tm z) := closed_conc _ _ (by rcases hkey with ⟨_, _, e, _⟩ | ⟨_, _, e, _⟩ <;> rw [e] <;> rfl) hz
            obtain ⟨zv, z1, z2⟩ := zero_conc (tyRun hP hLe) hzz hq2.1 hq2.2 E.I w
            have hbs := (h.loc c b hl).1
            obtain ⟨st1, st2⟩ := find_st (I := E.I) d2 hkey ck es.toList l 0 m2
            have tup : ∀ (xv : Value) (sv : SV) (n : Int), Conc E.I w xv sv → CV E (lkO s.mem) w (.tuple #[xv, .int .i64 n]) (.tup [sv, .int .i64 n]) := fun xv sv n hc =>
              .conc _ _ (.tup _ _ rfl (fun i => by
                match i with
                | 0 => exact hc
                | 1 => exact .int _ _
                | i + 2 => simpa using Conc.any _))
            rcases find_eq (I := E.I) d2 hkey es.toList l 0 m2 with ⟨f1, f2⟩ | ⟨j, ee, v, g1, g2, g3, g4, g5, g6, g7⟩
            · have p1 : mpV l (ev s.tm z) = .any := by unfold mpV; rw [f1]; rfl
              have p2 : mpEnt l ck vk (ev s.tm z) = l ++ [.agg [ev s.tm z, coerce vk .any, .int .i64 ck]] := by unfold mpEnt mpHas; rw [f1]; rfl
              have p3 : mpCk l ck (ev s.tm z) = ck + 1 := by unfold mpCk mpHas; rw [f1]; rfl
              have hrun : (execOp a.eval o).run P w = .ok (.value (.tuple #[zv, .int .i64 ck])) { w with heap := w.heap.setIfInBounds b (.map (es.push { key := a.eval z, val := zv, born := ck }) (ck + 1)) } := by
                simp [execOp, ho, e1, Instr.mapEntry, run_underlying hu2, MapKept.run_getObj_map m1, hck, MapKept.run_findKey d1 f2, z1, MapKept.run_setObj_map _ m1, Result.andThen, goInt]
              unfold Oper.wp
              rw [hrun]
              rw [p1, p2, p3, st1 f2] at hK
              have hvk : kOk vk (coerce vk .any) := by
                cases vk <;> first | exact ⟨_, rfl⟩ | exact ⟨_, _, rfl⟩ | exact .inr (.inr ⟨_, rfl⟩) | exact .inr ⟨_, rfl⟩ | trivial
              refine hK E _ _ (h.mput (x := .tuple #[zv, .int .i64 ck]) (es := es.push { key := a.eval z, val := zv, born := ck }) q4 hm hl ?_ ?_ ?_ (dOk_lt hd) (tup _ _ _ z2) ?_ ?_ ?_ ⟨rfl, rfl, rfl⟩)
              · rw [Array.toList_push]
                exact EsR.push ⟨sh3 i3 hvk, hzc, z2, rfl⟩ m2
              · intro x hx
                rw [Array.toList_push, List.mem_append, List.mem_singleton] at hx
                rcases hx with hx | rfl
                · exact Nat.lt_succ_of_lt (m3 x hx)
                · exact Nat.lt_succ_self _
              · rw [Array.toList_push, List.map_append, List.pairwise_append]
                refine ⟨m4, by simp, fun x hx y hy => ?_⟩
                simp only [List.map_cons, List.map_nil, List.mem_singleton] at hy
                subst hy
                obtain ⟨e', he', rfl⟩ := List.mem_map.1 hx
                exact m3 e' he'
              · show (w.heap.setIfInBounds b _)[b]? = _
                rw [Array.getElem?_setIfInBounds_self_of_lt hbs]
              · intro k hk
                show (w.heap.setIfInBounds b _)[k]? = _
                rw [Array.getElem?_setIfInBounds_ne (fun e => hk e.symm)]
              · show (w.heap.setIfInBounds b _).size = _
                rw [Array.size_setIfInBounds]
            · have p1 : mpV l (ev s.tm z) = v.cells.getD 1 .any := by unfold mpV; rw [g5]; rfl
              have p2 : mpEnt l ck vk (ev s.tm z) = l := by unfold mpEnt mpHas; rw [g5]; rfl
              have p3 : mpCk l ck (ev s.tm z) = ck := by unfold mpCk mpHas; rw [g5]; rfl
              obtain ⟨e5, g1b, st3⟩ := st2 j _ g6
              rw [g1] at g1b
              cases g1b
              rw [Nat.zero_add] at g6
              have g1' : es[j]? = some ee := by rw [← Array.getElem?_toList]; exact g1
              have hsb := i2 9999
              have hks : (Instr.keyThatStays (((es[j]?).map (·.key)).getD (a.eval z)) (a.eval z)).run P w = .ok (a.eval z) w := by
                rw [g1']
                show (Instr.keyThatStays ee.key (a.eval z)).run P w = _
                rw [g4]
                simp [Instr.keyThatStays, hsb]
              have hks' : (Instr.keyThatStays ee.key (a.eval z)).run P w = .ok (a.eval z) w := by
                rw [g4]
                simp [Instr.keyThatStays, hsb]
              have hrun : (execOp a.eval o).run P w = .ok (.value (.tuple #[ee.val, .int .i64 ee.born])) { w with heap := w.heap.setIfInBounds b (.map (es.modify j fun e => { e with key := a.eval z }) ck) } := by
                simp [execOp, ho, e1, Instr.mapEntry, run_underlying hu2, MapKept.run_getObj_map m1, hck, MapKept.run_findKey d1 g6, g1', hks', MapKept.run_setObj_map _ m1, Result.andThen, goInt]
              unfold Oper.wp
              rw [hrun]
              rw [p1, p2, p3, st3] at hK
              have hc : Conc E.I w ee.val (coerce vk (v.cells.getD 1 .any)) := g3.2.2.1.coerce (g3.1.2 1 (by simp))
              have htl : (es.modify j fun e => { e with key := a.eval z }).toList = es.toList := by
                apply List.ext_getElem?
                intro i
                rw [Array.getElem?_toList, Array.getElem?_modify]
                by_cases hij : j = i
                · subst hij
                  rw [if_pos rfl, g1', Array.getElem?_toList, g1']
                  show some { ee with key := a.eval z } = some ee
                  rw [← g4]
                · rw [if_neg hij, Array.getElem?_toList]
              refine hK E _ _ (h.mput (x := .tuple #[ee.val, .int .i64 ee.born]) (es := es.modify j fun e => { e with key := a.eval z }) q4 hm hl (by rw [htl]; exact m2) (by rw [htl]; exact m3) (by rw [htl]; exact m4) (dOk_lt hd) (tup _ _ _ hc) ?_ ?_ ?_ ⟨rfl, rfl, rfl⟩)
              · show (w.heap.setIfInBounds b _)[b]? = _
                rw [Array.getElem?_setIfInBounds_self_of_lt hbs]
              · intro k hk
                show (w.heap.setIfInBounds b _)[k]? = _
                rw [Array.getElem?_setIfInBounds_ne (fun e => hk e.symm)]
              · show (w.heap.setIfInBounds b _).size = _
                rw [Array.size_setIfInBounds]
          · exact hob.elim
        · exact hob.elim
      · exact hob.elim
    · exact hob.elim
  · exact hob.elim

theorem sound_stoMap {t : Nat} {y z u : Operand} (ho : o.op = .entryStore t y z u) : Sound cx P o := by
  intro B M I0 G w0 E s a w K Q h hd hob hK
  have e : opx cx s.mem (ev s.tm) o = stoMap s.mem (ev s.tm y) (ev s.tm z) (ev s.tm u) := by simp [opx, ho, opE]
  rw [e] at hob hK
  unfold stoMap at hob hK
  have hy := h.eval y
  have hz := h.eval z
  have hu := h.eval u
  split at hob
  · rename_i c n hv hn
    simp only [hv, hn] at hK
    rw [hv] at hy
    rw [hn] at hz
    split at hob
    · rename_i t' kk vk l ck hm
      simp only [hm] at hK
      cases hq : (mpVal vk (ev s.tm u) && !(roK c)) with
      | false => simp only [hq] at hob; exact hob.elim
      | true =>
        simp only [hq] at hK hob
        simp only [Bool.and_eq_true, Bool.not_eq_true'] at hq
        obtain ⟨⟨o1, o2⟩⟩ := hob
        obtain ⟨b, e1, _, e3⟩ := hy.inv_mpp
        have hmap := h.ch c
        rw [hm] at hmap
        obtain ⟨b', hl, es, m1, m2, m3, m4⟩ := hmap
        rw [hl] at e3
        cases e3
        obtain ⟨v1, v2⟩ := mpVal_ok (I := E.I) hq.1
        have hvc := closed_conc _ _ v2 hu
        have hbs := (h.loc c b hl).1
        rcases find_bn (I := E.I) n.toNat es.toList l m2 with ⟨f1, _⟩ | ⟨j, ee, v, g1, g2, g3, g4, g5, g6, g7⟩
        · rw [f1] at o2; cases o2
        · have g1' : es[j]? = some ee := by rw [← Array.getElem?_toList]; exact g1
          have hn' : ((n.toNat : Nat) : Int) = n := Int.toNat_of_nonneg o1
          rw [hn'] at g6
          have g6' : es.findIdx? (fun e => (e.born : Int) == n) = some j := by rw [show es = es.toList.toArray from rfl, List.findIdx?_toArray]; exact g6
          have hrun : (execOp a.eval o).run P w = .ok .skip { w with heap := w.heap.setIfInBounds b (.map (es.modify j fun e => { e with val := a.eval u }) ck) } := by
            simp [execOp, ho, e1, hz.inv_int, Instr.entryStore, MapKept.run_getObj_map m1, asInt, asIntOf, g6', MapKept.run_setObj_map _ m1, Result.andThen]
          unfold Oper.wp
          rw [hrun]
          rw [g7] at hK
          have htl : (es.modify j fun e => { e with val := a.eval u }).toList = es.toList.set j { ee with val := a.eval u } := by
            apply List.ext_getElem?
            intro i
            rw [Array.getElem?_toList, Array.getElem?_modify, List.getElem?_set]
            by_cases hij : j = i
            · subst hij
              rw [if_pos rfl, if_pos rfl, g1']
              have : j < es.toList.length := (List.getElem?_eq_some_iff.1 g1).1
              rw [if_pos this]; rfl
            · rw [if_neg hij, if_neg hij, Array.getElem?_toList]
          refine hK E _ _ (h.mput (x := undef) (v := .und) (es := es.modify j fun e => { e with val := a.eval u }) hq.2 hm hl ?_ ?_ ?_ (dOk_lt hd) (.conc _ _ .und) ?_ ?_ ?_ ⟨rfl, rfl, rfl⟩)
          · rw [htl]
            obtain ⟨r1, r2, r3, r4⟩ := g3
            have hk0 : kOk kk (v.cells.getD 0 .any) := r1.2 0 (by simp)
            refine EsR.set (e := { ee with val := a.eval u }) (v := .agg [v.cells.getD 0 .any, ev s.tm u, v.cells.getD 2 .any]) ⟨?_, r2, hvc, r4⟩ j m2
            rw [r4]; exact sh3 hk0 v1
          · intro x hx
            rw [htl] at hx
            rcases List.mem_or_eq_of_mem_set hx with hx | rfl
            · exact m3 x hx
            · exact m3 ee (List.mem_of_getElem? g1)
          · rw [htl, List.map_set]
            have : (es.toList.map (·.born)).set j ee.born = es.toList.map (·.born) := by
              apply List.ext_getElem?
              intro i
              rw [List.getElem?_set]
              by_cases hij : j = i
              · subst hij
                rw [if_pos rfl]
                have hlt : j < es.toList.length := (List.getElem?_eq_some_iff.1 g1).1
                rw [if_pos (by rw [List.length_map]; exact hlt), List.getElem?_map, g1]; rfl
              · rw [if_neg hij]
            rw [this]; exact m4
          · show (w.heap.setIfInBounds b _)[b]? = _
            rw [Array.getElem?_setIfInBounds_self_of_lt hbs]
          · intro k hk
            show (w.heap.setIfInBounds b _)[k]? = _
            rw [Array.getElem?_setIfInBounds_ne (fun e => hk e.symm)]
          · show (w.heap.setIfInBounds b _).size = _
            rw [Array.size_setIfInBounds]
    · exact hob.elim
  · exact hob.elim

theorem sound_range (hP : CxOk P cx) {t : Nat} {y : Operand} (ho : o.op = .range t y) : Sound cx P o := by
  intro B M I0 G w0 E s a w K Q h hd hob hK
  have e : opx cx s.mem (ev s.tm) o = rngMap cx s.mem o.dst t (ev s.tm y) := by simp [opx, ho, opE]
  rw [e] at hob hK
  unfold rngMap at hob hK
  have hy := h.eval y
  split at hob
  · rename_i c L d hv ht hdst
    simp only [hv, ht, hdst] at hK
    rw [hv] at hy
    split at hob
    · rename_i k e' t' kk vk l ck hk hm hfree
      simp only [hk, hm, hfree] at hK
      obtain ⟨b, e1, _, e3⟩ := hy.inv_mpp
      have hmap := h.ch c
      rw [hm] at hmap
      obtain ⟨b', hl, es, m1, m2, m3, m4⟩ := hmap
      rw [hl] at e3
      cases e3
      have hu2 := tyMap hP ht hk
      unfold Oper.wp
      have hrun : (execOp a.eval o).run P w = .ok (.value (.pointer (some ⟨w.heap.size, 0, none⟩))) (w.alloc (.mapIter (some b) ck #[] ck)) := by
        simp [execOp, ho, e1, Instr.range, run_underlying hu2, MapKept.run_getObj_map m1, Result.andThen]
      rw [hrun]
      have hne : ¬ (cx.off + d) = c := fun e => by rw [e, hm] at hfree; cases hfree
      refine hK (E.withBlock (cx.off + d) w.heap.size (.pointer (some ⟨w.heap.size, 0, none⟩))) _ _ ?_
      rw [hdst]
      refine h.alloc (dOk_lt hd d hdst) hfree rfl fun E' hE' hmm => ?_
      have hl' : lkO ([(cx.off + d, Chunk.it c ck [] ck)] ++ s.mem) (cx.off + d) = some (.it c ck [] ck) := by rw [List.singleton_append, lkO_cons, if_pos rfl]
      refine ⟨.itp _ w.heap.size (by rw [hl']; rfl) (by rw [hE']; simp [Env.withBlock]), w.heap.size, b, by rw [hE']; simp [Env.withBlock], ?_, heap_new w _⟩
      rw [← e1]
      exact hmm _ _ hy
    · exact hob.elim
  · exact hob.elim

theorem EsR.get {I : Nat → Prop} {kk vk : CK} : ∀ {es : List MapEntry} {l : List SV} (j : Nat) (e : MapEntry), EsR I w kk vk es l → es[j]? = some e → ∃ v, l[j]? = some v ∧ EntR I w kk vk e v
  | [], [], _, _, _, h => by cases h
  | e :: es, v :: l, 0, _, ⟨h1, _⟩, h => by cases h; exact ⟨v, rfl, h1⟩
  | e :: es, v :: l, j + 1, _, ⟨_, h2⟩, h => EsR.get j _ h2 h

theorem sound_itMap {y : Operand} (ho : o.op = .entry y) : Sound cx P o := by
  intro B M I0 G w0 E s a w K Q h hd hob hK
  have e : opx cx s.mem (ev s.tm) o = itMap s.mem (ev s.tm y) := by simp [opx, ho, opE]
  rw [e] at hob hK
  unfold itMap at hob hK
  have hy := h.eval y
  split at hob
  · rename_i c hv
    simp only [hv] at hK
    rw [hv] at hy
    split at hob
    · rename_i d since n sn last hm
      simp only [hm] at hK
      split at hob
      · rename_i t' kk vk l ck hm2
        simp only [hm2] at hK
        obtain ⟨⟨o1, o2⟩⟩ := hob
        subst o1
        obtain ⟨b, e1, _, e3⟩ := hy.inv_itp
        have hit := h.ch c
        rw [hm] at hit
        obtain ⟨b', db, hl, hmp, hheap⟩ := hit
        rw [hl] at e3
        cases e3
        obtain ⟨b2, e4, _, e5⟩ := hmp.inv_mpp
        cases e4
        have hmap := h.ch d
        rw [hm2] at hmap
        obtain ⟨b3, hl2, es, m1, m2, m3, m4⟩ := hmap
        rw [hl2] at e5
        cases e5
        rcases find_bn (I := E.I) n es.toList l m2 with ⟨f1, _⟩ | ⟨j, ee, v, g1, g2, g3, g4, g5, g6, g7⟩
        · rw [f1] at o2; cases o2
        · have hheap' : w.heap[b]? = some (.mapIter (some db) since (sn.reverse.toArray.push ee.born) last) := by
            rw [hheap, List.reverse_cons, List.push_toArray, g4]
          have hent := run_entry_at (P := P) w b db since sn.reverse.toArray es last ee hheap' m1 (List.mem_of_getElem? g1) (m4.imp (fun h => Nat.ne_of_lt h))
          rw [g5] at hK
          have c0 : Conc E.I w ee.key (coerce kk (v.cells.getD 0 .any)) := g3.2.1.coerce (g3.1.2 0 (by simp))
          have c1 : Conc E.I w ee.val (coerce vk (v.cells.getD 1 .any)) := g3.2.2.1.coerce (g3.1.2 1 (by simp))
          refine op_val h hd (x := .tuple #[ee.key, ee.val]) (by simp [execOp, ho, e1, hent, Result.andThen]) (.conc _ _ (.tup _ _ rfl (fun i => ?_))) hK
          match i with
          | 0 => exact c0
          | 1 => exact c1
          | i + 2 => simpa using Conc.any _
      · exact hob.elim
    · exact hob.elim
  · exact hob.elim

/-- An iterator of the function's own makes a step. -/
theorem Rel.iput {nt : Nat} (h : Rel P nt B M I0 G w0 E s a w) {c b d db since since' last last' : Nat} {sn sn' : List Nat} (hro : roK c = false) (hm : lkO s.mem c = some (.it d since sn last)) (hl : E.loc c = some b)
    (hd : CV E (lkO s.mem) w (.map (some db)) (.mpp d)) {w' : World}
    (hb : w'.heap[b]? = some (.mapIter (some db) since' sn'.reverse.toArray last')) (ho : ∀ k, k ≠ b → w'.heap[k]? = w.heap[k]?) (hsz : w'.heap.size = w.heap.size) (hos : w'.os = w.os ∧ w'.tape = w.tape ∧ w'.output = w.output) :
    (∀ y u, CV E (lkO s.mem) w y u → CV E (lkO ([(c, Chunk.it d since' sn' last')] ++ s.mem)) w' y u) ∧ Rel P nt B M I0 G w0 E ⟨s.tm, [(c, .it d since' sn' last')] ++ s.mem⟩ a w' := by
  obtain ⟨hbs, hbI, hbM⟩ := h.loc c b hl
  have hlk : ∀ k, lkO ([(c, Chunk.it d since' sn' last')] ++ s.mem) k = if c = k then some (.it d since' sn' last') else lkO s.mem k := fun k => by rw [List.singleton_append, lkO_cons]
  have hI : ∀ k, E.I k → w'.heap[k]? = w.heap[k]? := fun k hk => ho k (fun e => hbI (e ▸ hk))
  have hmm : ∀ y u, CV E (lkO s.mem) w y u → CV E (lkO ([(c, Chunk.it d since' sn' last')] ++ s.mem)) w' y u := fun y u hy => by
    refine CV.mono (E := E) (m := lkO s.mem) (w := w) (fun _ h => h) hI (fun k t' cs0 b' e1 e2 => ⟨?_, e2⟩) (fun k b' e1 e2 => ?_) (fun k v' e1 => ?_) hy
    · have hk : ¬ c = k := fun e => by subst e; rw [hm] at e1; cases e1
      exact ⟨t', cs0, by rw [hlk, if_neg hk]; exact e1⟩
    · rw [hlk]
      by_cases e : c = k
      · subst e
        rw [if_pos rfl, hm]
        exact ⟨fun hc => (by cases hc), fun _ => rfl, e2⟩
      · rw [if_neg e]; exact ⟨id, id, e2⟩
    · have hk : ¬ c = k := fun e => by subst e; rw [hm] at e1; simp [verOf] at e1
      exact ⟨v', by rw [hlk, if_neg hk]; exact e1, Nat.le_refl _, fun _ => ⟨rfl, fun _ h => h⟩⟩
  refine ⟨hmm, h.defers, h.tsize, h.fr.trans ⟨hos.1, hos.2.1, hos.2.2, by omega, fun k hk hM => ho k (fun e => ?_)⟩, by have := h.base; omega, h.i0, fun k hk => ⟨by have := (h.inew k hk).1; omega, (h.inew k hk).2⟩, fun k b' hk => ?_, h.inj, fun t => hmm _ _ (h.tm t), fun k => ?_, h.ld, h.gv⟩
  · subst e
    rcases hbM with e1 | e1 | ⟨e1, _⟩
    · omega
    · exact hM e1
    · rw [hro] at e1; cases e1
  · obtain ⟨k1, k2, k3⟩ := h.loc k b' hk
    refine ⟨by omega, k2, ?_⟩
    dsimp only
    rw [hlk]
    by_cases e : c = k
    · rw [if_pos e]
      subst e
      rcases k3 with k3 | k3 | k3
      · exact .inl k3
      · exact .inr (.inl k3)
      · exact .inr (.inr ⟨k3.1, rfl⟩)
    · rw [if_neg e]; exact k3
  · dsimp only
    rw [hlk]
    by_cases e : c = k
    · subst e
      rw [if_pos rfl]
      exact ⟨b, db, hl, hmm _ _ hd, hb⟩
    · rw [if_neg e]
      exact ChR.mono (E := E) (m := lkO s.mem) (w := w) (fun _ h => h) hI hmm rfl rfl (fun b' hb' => ho b' (fun e' => e (h.inj c k b hl (e' ▸ hb')))) (h.ch k)

theorem memN_iff (n : Nat) : ∀ l : List Nat, memN n l = true ↔ n ∈ l
  | [] => by simp [memN]
  | k :: r => by
    unfold memN
    rw [beqN]
    by_cases h : k = n
    · subst h; simp
    · rw [decide_eq_false h]
      dsimp only
      rw [memN_iff n r, List.mem_cons]
      constructor
      · exact .inr
      · rintro (h1 | h1)
        · exact absurd h1.symm h
        · exact h1

/-- The next step of an iterator, in whatever memory. -/
theorem next_run {nt : Nat} (h : Rel P nt B M I0 G w0 E s a w) {c : Nat} {b : Nat} (hl : E.loc c = some b) (hi : isIt (lkO s.mem c) = true) {K : SV → List (Nat × Chunk) → Prop} {g : Nat} (hT : nextT g [.itp c] s.mem K) (ty : Nat) :
    ∃ x w' r m', (Instr.next (.pointer (some ⟨b, 0, none⟩)) false ty).run P w = .ok x w' ∧ Rel P nt B M I0 G w0 E ⟨s.tm, m'⟩ a w' ∧ CV E (lkO m') w' x r ∧ K r m' := by
  obtain ⟨d, since, sn, last, hm⟩ := isIt_some hi
  unfold nextT at hT
  simp only [hm] at hT
  split at hT
  · rename_i t' kk vk l ck hm2 hro
    obtain ⟨⟨hsi, hla⟩, hT1, hT2⟩ := hT
    have hla' : last = since := hla.trans hsi.symm
    subst hla'
    subst hla
    have hit := h.ch c
    rw [hm] at hit
    obtain ⟨b', db, hl', hmp, hheap⟩ := hit
    rw [hl] at hl'
    cases hl'
    obtain ⟨b2, e4, _, e5⟩ := hmp.inv_mpp
    cases e4
    have hmap := h.ch d
    rw [hm2] at hmap
    obtain ⟨b3, hl2, es, m1, m2, m3, m4⟩ := hmap
    rw [hl2] at e5
    cases e5
    have hstamp : ∀ (j : Nat) (e : MapEntry), es.toList[j]? = some e → mpS l j = e.born ∧ mpAt l e.born = some (l.getD j .any) ∧ j < l.length ∧ EntR E.I w kk vk e (l.getD j .any) := fun j e he => by
      obtain ⟨v, hv, hE⟩ := EsR.get j e m2 he
      have hgd : l.getD j .any = v := by rw [List.getD_eq_getElem?_getD, hv]; rfl
      refine ⟨by unfold mpS elCell; rw [hgd, hE.2.2.2]; rfl, ?_, (List.getElem?_eq_some_iff.1 hv).1, by rw [hgd]; exact hE⟩
      rcases find_bn (I := E.I) e.born es.toList l m2 with ⟨f1, f2⟩ | ⟨i, ee, v', g1, g2, g3, g4, g5, g6, g7⟩
      · exfalso
        rw [List.findIdx?_eq_none_iff] at f2
        have := f2 e (List.mem_of_getElem? he)
        simp at this
      · have : i = j := by
          have hi := (List.getElem?_eq_some_iff.1 g1).1
          have hj := (List.getElem?_eq_some_iff.1 he).1
          rcases Nat.lt_trichotomy i j with q | q | q
          · have := List.pairwise_iff_getElem.1 m4 i j (by simpa using hi) (by simpa using hj) q
            rw [List.getElem_map, List.getElem_map, (List.getElem?_eq_some_iff.1 g1).2, (List.getElem?_eq_some_iff.1 he).2] at this
            omega
          · exact q
          · have := List.pairwise_iff_getElem.1 m4 j i (by simpa using hj) (by simpa using hi) q
            rw [List.getElem_map, List.getElem_map, (List.getElem?_eq_some_iff.1 g1).2, (List.getElem?_eq_some_iff.1 he).2] at this
            omega
        subst this
        rw [g5, ← g2]
        rw [List.getD_eq_getElem?_getD, g2]; rfl
    rcases run_next_at (P := P) w ty b db _ _ sn.reverse.toArray es _ hheap m1 m3 (Nat.le_refl _) with ⟨n1, n2⟩ | ⟨e, he, w1, hw1, n2⟩
    · refine ⟨_, w, _, s.mem, n2, h, .conc _ _ (.tup _ _ rfl (fun i => ?_)), hT2 (fun j hj => ?_)⟩
      · match i with
        | 0 => exact .ff
        | i + 1 => simpa using Conc.any _
      · rw [memN_iff]
        have hjs : j < es.toList.length := by rw [EsR_len m2]; exact hj
        obtain ⟨s1, _⟩ := hstamp j _ (List.getElem?_eq_getElem hjs)
        rw [s1]
        apply Classical.byContradiction
        intro hc
        have : es.toList[j] ∈ (leftOf es sn.reverse.toArray).toList := by
          simp [leftOf]
          simpa using hc
        rw [← Array.length_toList] at n1
        rw [List.eq_nil_of_length_eq_zero n1] at this
        cases this
    · have hmem : e ∈ es.toList ∧ ¬ e.born ∈ sn := by
        simp [leftOf] at he
        exact ⟨by simpa using he.1, by simpa using he.2⟩
      obtain ⟨j, hj⟩ := List.mem_iff_getElem?.1 hmem.1
      obtain ⟨s1, s2, s3, s4⟩ := hstamp j e hj
      have h1 : Rel P nt B M I0 G w0 E s a w1 := by
        rcases hw1 with rfl | rfl
        · exact h
        · exact h.drew
      have hw1h : w1.heap = w.heap := by rcases hw1 with rfl | rfl <;> rfl
      have hbs := (h.loc c b hl).1
      have hmp1 := h1.ch c
      rw [hm] at hmp1
      obtain ⟨b5, db5, hl5, hmp5, hheap5⟩ := hmp1
      rw [hl] at hl5
      cases hl5
      rw [hw1h, hheap] at hheap5
      cases hheap5
      obtain ⟨hmm, hrel⟩ := h1.iput (c := c) (b := b) (since' := last) (last' := last) (sn' := e.born :: sn) hro hm hl hmp5 (w' := ChangeMaps.setBlock w1 b (.mapIter (some db) last (sn.reverse.toArray.push e.born) last))
        (by show (w1.heap.setIfInBounds b _)[b]? = _; rw [Array.getElem?_setIfInBounds_self_of_lt (by rw [hw1h]; exact hbs)]; simp)
        (fun k hk => by show (w1.heap.setIfInBounds b _)[k]? = _; rw [Array.getElem?_setIfInBounds_ne (fun e => hk e.symm)])
        (by show (w1.heap.setIfInBounds b _).size = _; rw [Array.size_setIfInBounds]) ⟨rfl, rfl, rfl⟩
      refine ⟨_, _, _, _, n2, hrel, ?_, by
        have := hT1 j s3 (by rw [s1]; cases hq : memN e.born sn with
          | false => rfl
          | true => exact absurd ((memN_iff _ _).1 hq) hmem.2) (by rw [s1]; exact s2)
        rw [s1] at this; exact this⟩
      have mono : ∀ y u, Conc E.I w y u → CV E (lkO s.mem) w1 y u := fun y u hy => .conc _ _ (hy.mono (fun _ h => h) (fun k _ => by rw [hw1h]))
      refine hmm _ _ (.tup _ _ rfl (fun i => ?_))
      match i with
      | 0 => exact .conc _ _ .tt
      | 1 => exact mono _ _ (s4.2.1.coerce (s4.1.2 0 (by simp)))
      | 2 => exact mono _ _ (s4.2.2.1.coerce (s4.1.2 1 (by simp)))
      | i + 3 => exact .conc _ _ (by simpa using Conc.any _)
  · exact hT.elim
end
end Go.Rx

/- The framework, part 15: conversions; every operation does what the executor says. -/
namespace Go.Rx
set_option linter.unusedSectionVars false
open Go.RowKit

section
variable {cx : Cx} {P : Program} [Laid P] {o : Oper}

theorem bytes_fold : ∀ (ns : List Int) (b : ByteArray), (ns.foldl (fun r n => r.push (UInt8.ofNat n.toNat)) b).data.toList = b.data.toList ++ ns.map fun n => UInt8.ofNat n.toNat
  | [], b => by simp
  | n :: r, b => by
    rw [List.foldl_cons, bytes_fold r]
    simp [ByteArray.push]

theorem sound_convert (hP : CxOk P cx) {t d : Nat} {y : Operand} (ho : o.op = .convert t d y) : Sound cx P o := by
  intro B M I0 G w0 E s a w K Q h hd hob hK
  have e : opx cx s.mem (ev s.tm) o = convOf cx s.mem t d (ev s.tm y) := by simp [opx, ho, opE]
  rw [e] at hob hK
  unfold convOf at hob hK
  have hy := h.eval y
  cases hs : tyOf cx t with
  | none => simp only [hs] at hob; exact hob.elim
  | some S =>
    cases ht : tyOf cx d with
    | none => simp only [hs, ht] at hob; exact hob.elim
    | some L =>
      obtain ⟨ds, s1, s2⟩ := (tyRun hP hs).desc
      obtain ⟨dd, d1, d2⟩ := (tyRun hP ht).desc
      simp only [hs, ht] at hob hK
      cases hk : L.k <;> simp only [hk] at hob hK d2 <;> try exact hob.elim
      · rename_i k'
        have := TkOk_int d2
        subst this
        cases hv : ev s.tm y <;> simp only [hv] at hob hK <;> try exact hob.elim
        · rename_i k n
          rw [hv] at hy
          refine op_val h hd (x := .int k' (k'.wrap n)) ?_ (.conc _ _ (.int _ _)) hK
          simp [execOp, ho, convert, run_underlying s1, run_underlying d1, hy.inv_int, Conv.intToInt]
        · rename_i b
          rw [hv] at hy
          obtain ⟨n, hn⟩ := Option.isSome_iff_exists.1 hob.out
          refine op_val h hd (x := .int k' n) ?_ (by rw [show fTo k' b = n by unfold fTo; rw [hn]; rfl]; exact .conc _ _ (.int _ _)) hK
          have := run_convert_float_int (P := P) w t d .f64 k' b n (by rw [s1]; rfl) d1 hn
          simp [execOp, ho, hy.inv_flt, this]
      · have := TkOk_str d2
        subst this
        cases hsk : S.k <;> simp only [hsk] at hob hK s2 <;> try exact hob.elim
        · have := TkOk_str s2
          subst this
          cases hv : ev s.tm y <;> simp only [hv] at hob hK <;> try exact hob.elim
          rename_i l
          rw [hv] at hy
          obtain ⟨b, e1, e2⟩ := hy.inv_str
          refine op_val h hd (x := .string b) ?_ (.conc _ _ (.str _ _ e2)) hK
          simp [execOp, ho, convert, run_underlying s1, run_underlying d1, e1]
        · rename_i et
          have := TkOk_sl s2
          subst this
          cases hte : tyOf cx et with
          | none => simp only [hte] at hob; exact hob.elim
          | some Le =>
            obtain ⟨de, e1, e2⟩ := (tyRun hP hte).desc
            simp only [hte] at hob hK
            cases hr : rowOf s.mem (ev s.tm y) with
            | none => simp only [hr] at hob; exact hob.elim
            | some r =>
              obtain ⟨ks, l, rd⟩ := r
              simp only [hr] at hob hK
              cases hek : Le.k <;> simp only [hek] at hob hK e2 <;> try exact hob.elim
              rename_i k
              cases hk1 : decide (k = .u8) <;> cases hk2 : cksEq ks [.int .u8] <;> simp only [hk1, hk2] at hob hK <;> try exact hob.elim
              have hk1 := of_decide_eq_true hk1
              have hk2 := cksEq_eq _ _ hk2
              subst hk1 hk2
              have := TkOk_int e2
              subst this
              obtain ⟨hsh, hcase⟩ := rowOf_cells h.ch hy hr
              have hconv : ∀ {v : Value} {x : Value}, (∀ n, x ≠ .int .u8 n) → (match x with | .slice _ _ _ => True | _ => False) → (Conv.bytesToString x).run P w = .ok v w → a.eval y = x → (execOp a.eval o).run P w = .ok (.value v) w := by
                intro v x _ hx hv ex
                cases x <;> first | exact hx.elim | skip
                simp [execOp, ho, convert, run_underlying s1, run_underlying d1, run_underlying e1, ex, hv]
              -- each byte
              have hbyte : ∀ i, i < l.length → ∃ n : Int, elCell l i 0 = .int .u8 n := fun i hi => by
                have := shOk_get hsh hi (j := 0) (by simp)
                exact this
              rcases hcase with ⟨ey, el⟩ | ⟨el, ad, cap, ey⟩ | ⟨b, off, cap, f, ey, hf⟩
              · subst el
                exact op_val h hd (hconv (v := .string .empty) (by simp) trivial (by simp [Conv.bytesToString]) ey) (.conc _ _ (.str _ _ rfl)) hK
              · subst el
                cases ad with
                | none => exact op_val h hd (hconv (v := .string .empty) (by simp) trivial (by simp [Conv.bytesToString]) ey) (.conc _ _ (.str _ _ rfl)) hK
                | some ad =>
                  have := run_bytesToString (P := P) w ad 0 cap [] (by simp [loadCells, loadCellsFrom])
                  exact op_val h hd (hconv (by simp) trivial this ey) (.conc _ _ (.str _ _ rfl)) hK
              · have hlc : (loadCells ⟨b, off, none⟩ l.length).run P w = .ok ((l.map fun v => (v.cells.getD 0 .any).toInt).map (Value.int .u8)).toArray w := by
                  rw [run_loadCells w ⟨b, off, none⟩ l.length (fun i => f i 0) (fun i hi => by
                    have := (hf i 0 hi (by simp)).1
                    simpa [addr_add] using this)]
                  congr 2
                  apply List.ext_getElem
                  · simp
                  · intro i h1 h2
                    have hi : i < l.length := by simpa using h1
                    obtain ⟨n, hn⟩ := hbyte i hi
                    have hc := (hf i 0 hi (by simp)).2
                    rw [hn] at hc
                    have hfi : f i 0 = .int .u8 n := (CV.conc (E := E) (m := lkO s.mem) _ _ hc).inv_int
                    have hel : (l[i].cells.getD 0 .any) = .int .u8 n := by
                      rw [← hn]
                      simp [elCell, List.getD_eq_getElem?_getD, hi]
                    simp only [List.getElem_map, List.getElem_range, hfi, hel, SV.toInt]
                refine op_val h hd (hconv (by simp) trivial (run_bytesToString (P := P) w _ l.length cap _ hlc) ey) (.conc _ _ (.str _ _ ?_)) hK
                rw [bytes_fold]
                simp [bytesOf]
      · have := TkOk_flt d2
        subst this
        cases hv : ev s.tm y <;> simp only [hv] at hob hK <;> try exact hob.elim
        rename_i k n
        rw [hv] at hy
        refine op_val h hd (x := .float .f64 (fI n)) ?_ (.conc _ _ (.flt _)) hK
        have := run_convert_int_float (P := P) w t d k .f64 n (by rw [s1]; rfl) d1
        simp [execOp, ho, hy.inv_int, this]
        rfl

/-- A look whether a pointer is nil. -/
theorem sound_nilCheck {y : Operand} (ho : o.op = .nilCheck y) : Sound cx P o := by
  intro B M I0 G w0 E s a w K Q h hd hob hK
  have e : opx cx s.mem (ev s.tm) o = opE cx s.mem (ev s.tm) o.dst (.nilCheck y) := by simp [opx, ho]
  rw [e] at hob hK
  simp only [opE] at hob hK
  have hy := h.eval y
  split at hob
  · rename_i c off hv
    rw [hv] at hy hK
    obtain ⟨b, t, cs, e1, e2⟩ := hy.inv_ptr
    refine op_val h hd (x := a.eval y) ?_ hy hK
    simp only [execOp, ho, e1]
    rfl
  · rename_i ks l i off hv
    rw [hv] at hy hK
    obtain ⟨b, p, e1, _⟩ := ep_add hy.inv_ep
    refine op_val h hd (x := a.eval y) ?_ hy hK
    simp only [execOp, ho, e1]
    rfl
  · rename_i b ks l i off hv
    rw [hv] at hy hK
    have hb : b = true := hob.out
    have q3 := (oep_inv hy.inv_oep).2 hb
    obtain ⟨b', p, e1, _⟩ := ep_add q3
    refine op_val h hd (x := a.eval y) ?_ (.conc _ _ q3) hK
    simp only [execOp, ho, e1]
    rfl
  · exact hob.elim

theorem sound_makeFunc {fn : Fn} {first caps : Array Operand} (ho : o.op = .makeFunc fn first caps) : Sound cx P o := by
  intro B M I0 G w0 E s a w K Q h hd hob hK
  have e : opx cx s.mem (ev s.tm) o = opE cx s.mem (ev s.tm) o.dst (.makeFunc fn first caps) := by simp [opx, ho]
  rw [e] at hob hK
  simp only [opE] at hob hK
  split at hob
  · rename_i f h1 h2
    simp only [h1, h2] at hK
    have hf : first = #[] := by
      cases first with
      | mk l => have h1 : l = [] := h1; rw [h1]
    subst hf
    refine op_val h hd (x := .func (.func f) #[] (caps.map a.eval)) ?_ (.fn f _ _ (by simp) (fun i => ?_)) hK
    · simp [execOp, ho, Instr.makeFunc]
    · have := argsEval caps.toList (ev s.tm) a.eval h.eval i
      simpa [List.getD_eq_getElem?_getD, Array.getD_eq_getD_getElem?] using this
  · exact hob.elim

theorem made_getD {z : Array Value} {n i j : Nat} (hz : 0 < z.size) (hi : i < n) (hj : j < z.size) : (madeCells z (n * z.size)).toList.getD (i * z.size + j) undef = z.getD j undef := by
  have hlt : i * z.size + j < n * z.size := by
    have : (i + 1) * z.size ≤ n * z.size := Nat.mul_le_mul_right _ hi
    rw [Nat.add_mul, Nat.one_mul] at this
    omega
  unfold madeCells
  rw [List.getD_eq_getElem?_getD, Array.getElem?_toList, Array.getElem?_map, Array.getElem?_range]
  rw [if_pos hlt]
  have e : (i * z.size + j) % z.size = j := by
    rw [Nat.add_comm, Nat.add_mul_mod_self_right, Nat.mod_eq_of_lt hj]
  simp only [Option.map_some, Option.getD_some, e]
  rw [getElem!_pos z j hj, Array.getD_eq_getD_getElem?, Array.getElem?_eq_getElem hj]
  rfl

theorem sound_makeSlice (hP : CxOk P cx) {t : Nat} {len cap : Operand} (ho : o.op = .makeSlice t len cap) : Sound cx P o := by
  intro B M I0 G w0 E s a w K Q h hd hob hK
  have e : opx cx s.mem (ev s.tm) o = opE cx s.mem (ev s.tm) o.dst (.makeSlice t len cap) := by simp [opx, ho]
  rw [e] at hob hK
  simp only [opE] at hob hK
  have hl := h.eval len
  have hc := h.eval cap
  split at hob
  · rename_i d L k n k' n' hdst ht hvl hvc
    simp only [hdst, ht, hvl, hvc] at hK
    rw [hvl] at hl
    rw [hvc] at hc
    have hl := hl.inv_int
    have hc := hc.inv_int
    obtain ⟨dd, d1, d2⟩ := (tyRun hP ht).desc
    split at hob
    · rename_i et hk
      rw [hk] at d2
      have := TkOk_sl d2
      subst this
      simp only [hk] at hK
      split at hob
      · rename_i Le hte
        simp only [hte] at hK
        obtain ⟨inf, z, i1, i2, i3, i4, i5, i6, i7⟩ := (tyRun hP hte).info
        split at hob
        · rename_i hfree hkb
          simp only [hfree, hkb] at hK
          simp only [Bool.and_eq_true] at hkb
          obtain ⟨b1, b2⟩ := hkb
          rw [Nat.blt_eq] at b1
          obtain ⟨k1, k2⟩ := kBs_get7 b2
          have hblk : ∀ {w' : World} {m c n : Nat} {xs : List Value}, w'.ownsRow 0 et Le.ks.length (.slice (some ⟨w.heap.size, 0, none⟩) m c) n xs → ∀ b, Value.ownBlock (.slice (some ⟨w.heap.size, 0, none⟩) m c) = some b → b < w'.heap.size ∧ ((lkO s.mem (cx.off + d) ≠ none ∧ E.loc (cx.off + d) = some b) ∨ w.heap.size ≤ b) := by
            intro w' m c n xs ho b hb
            simp only [Value.ownBlock, Option.some.injEq] at hb
            subst hb
            refine ⟨?_, .inr (Nat.le_refl _)⟩
            rcases ho.2 with ⟨q, _⟩ | ⟨g, cp, cur, q1, _, q2, _⟩
            · cases q
            · simp only [Value.slice.injEq, Option.some.injEq, Addr.mk.injEq] at q1
              rw [← q1.1.1] at q2
              exact (Array.getElem?_eq_some_iff.1 q2).1
          split at hob
          · rename_i hz
            simp only [hz] at hK
            have hn0 : n = 0 := by
              unfold isZ at hz
              split at hz
              · have hvl' := hvl
                simp only [ev, ofVal] at hvl'
                cases hvl'; rfl
              · cases hz
            subst hn0
            obtain ⟨⟨q2, q3, q4⟩⟩ := hob
            obtain ⟨N, rfl⟩ : ∃ N : Nat, n' = N := ⟨n'.toNat, by omega⟩
            obtain ⟨w', r1, r2, r3⟩ := run_make_own w 0 t et inf z Le.ks.length d1 i1 i4 i2 k k' N (by
              have : (N : Int) * inf.bytes ≤ 1099511627776 := by rw [i3]; exact q3
              have e2 : ((inf.bytes * N : Nat) : Int) = (N : Int) * inf.bytes := by rw [Int.natCast_mul, Int.mul_comm]
              omega) (by simp only [maxLen]; omega) (Nat.zero_le _)
            have hrun : (execOp a.eval o).run P w = .ok (.value (.slice (some ⟨w.heap.size, 0, none⟩) 0 N)) w' := by
              simp only [execOp, ho, hl, hc, Sem.run_bind, r1, Result.andThen_ok]
              rfl
            unfold Oper.wp
            rw [hrun]
            refine hK (E.withRow (cx.off + d) (.slice (some ⟨w.heap.size, 0, none⟩) 0 N)) _ _ ?_
            rw [hdst]
            exact h.row (row := none) (fz := []) rfl (fun _ => rfl) (.inl ⟨hfree, rfl⟩) r3 (fun k hk => by cases hk) (hblk r2) (fun v hv => by cases hv) r2 (fun i j hi => by simp at hi) (fun k hk => dOk_lt hd k (by rw [hdst]; exact hk))
          · rename_i hz
            simp only [hz] at hK
            obtain ⟨⟨q1, q2, q3, q4⟩⟩ := hob
            subst q1
            obtain ⟨N, rfl⟩ : ∃ N : Nat, n = N := ⟨n.toNat, by omega⟩
            obtain ⟨w', r1, r2, r3⟩ := run_make_full w 0 t et inf z Le.ks.length d1 i1 i4 i2 k k' N (by
              have : (N : Int) * inf.bytes ≤ 1099511627776 := by rw [i3]; exact q3
              have e2 : ((inf.bytes * N : Nat) : Int) = (N : Int) * inf.bytes := by rw [Int.natCast_mul, Int.mul_comm]
              omega) (by simp only [maxLen]; omega) (Nat.zero_le _)
            have hrun : (execOp a.eval o).run P w = .ok (.value (.slice (some ⟨w.heap.size, 0, none⟩) N N)) w' := by
              simp only [execOp, ho, hl, hc, Sem.run_bind, r1, Result.andThen_ok]
              rfl
            have hel : (elOf Le.zero).cells = Le.zero := by
              unfold elOf
              split
              · rename_i u hu
                have := (kB_ok7 (k2 0 b1)).2.2
                rw [hu] at this ⊢
                simpa using this
              · rfl
            have hlen : (List.replicate (Int.toNat (N : Int)) (elOf Le.zero)).length = N := by simp
            unfold Oper.wp
            rw [hrun]
            refine hK (E.withRow (cx.off + d) (.slice (some ⟨w.heap.size, 0, none⟩) N N)) _ _ ?_
            rw [hdst]
            refine h.row (row := none) (fz := []) rfl (fun _ => rfl) (.inl ⟨hfree, rfl⟩) r3 (fun k hk => by cases hk) (hblk r2) (fun v hv => ?_) (by rw [hlen]; exact r2) (fun i j hi hj => ?_) (fun k hk => dOk_lt hd k (by rw [hdst]; exact hk))
            · have := List.eq_of_mem_replicate hv
              subst this
              exact ⟨by rw [hel, i6], fun j hj => by rw [hel]; exact (kB_ok7 (k2 j hj)).1⟩
            · rw [hlen] at hi
              have hzs : z.cells.size = Le.ks.length := i5
              have e1 : elCell (List.replicate (Int.toNat (N : Int)) (elOf Le.zero)) i j = Le.zero.getD j .any := by
                unfold elCell
                have : (List.replicate (Int.toNat (N : Int)) (elOf Le.zero)).getD i .any = elOf Le.zero := by
                  rw [List.getD_eq_getElem?_getD, List.getElem?_replicate, if_pos (by simpa using hi)]; rfl
                rw [this, hel]
              rw [e1]
              have e2 := made_getD (z := z.cells) (n := N) (i := i) (j := j) (by omega) hi (by omega)
              rw [hzs] at e2
              rw [e2]
              exact i7 _ _ j
        · exact hob.elim
      · exact hob.elim
    · exact hob.elim
  · exact hob.elim

/-- The end of a slice of the function's own, cleared. -/
theorem sound_clear (hP : CxOk P cx) {c : Call} (ho : o.op = .call c) (hc : c.callee = .builtin .clear) : Sound cx P o := by
  intro B M I0 G w0 E s a w K Q h hd hob hK
  have e : opx cx s.mem (ev s.tm) o = builtinOf cx s.mem .clear c.argTypes.toList o.dst (c.args.toList.map (ev s.tm)) := by simp [opx, ho, opE, hc]
  rw [e] at hob hK
  generalize hargs : c.args.toList.map (ev s.tm) = args at hob hK
  generalize hts : c.argTypes.toList = ts at hob hK
  simp only [builtinOf] at hob hK
  unfold clrOf at hob hK
  split at hob
  · rename_i t v
    simp only at hK
    obtain ⟨x, e1, hx⟩ := args_one h.eval hargs
    have e2 := list_one hts
    split at hob
    · rename_i c0 sz k ver L ht
      simp only [ht] at hK
      obtain ⟨d, h1, h2⟩ := (tyRun hP ht).desc
      cases hk : L.k <;> simp only [hk] at hob hK h2 <;> try exact hob.elim
      rename_i et
      have := TkOk_sl h2
      subst this
      split at hob
      · rename_i Le v' e' ks l hte hm
        simp only [hte, hm] at hK
        obtain ⟨inf, z, i1, i2, i3, i4, i5, i6, i7⟩ := (tyRun hP hte).info
        cases hq : (Nat.beq v' ver && cksEq ks Le.ks && kBs Le.ks Le.zero && Nat.beq sz ks.length && plainK ks && Nat.blt 0 ks.length) with
        | false => simp only [hq] at hob; exact hob.elim
        | true =>
          simp only [hq] at hob hK
          simp only [Bool.and_eq_true] at hq
          obtain ⟨⟨⟨⟨⟨p1, p2⟩, p3⟩, p4⟩, p5⟩, p6⟩ := hq
          have p1 := Nat.eq_of_beq_eq_true p1
          have p2 := cksEq_eq _ _ p2
          have p4 := Nat.eq_of_beq_eq_true p4
          have p6 : 0 < ks.length := by simpa [Nat.blt_eq] using p6
          subst p1
          subst p4
          obtain ⟨hkl⟩ := hob
          have k2 := (kBs_get7 p3).2
          have hel : (elOf Le.zero).cells = Le.zero := by
            unfold elOf
            split
            · rename_i u hu
              have := (kB_ok7 (k2 0 (by rw [← p2]; exact p6))).2.2
              rw [hu] at this ⊢
              simpa using this
            · rfl
          rw [← p2] at k2 i2 i5 i6
          have hrow : RowR E w c0 e' ks l := by have := h.ch c0; rw [hm] at this; exact this
          obtain ⟨v2, g1, g2⟩ := hx.inv_otl
          rw [hm] at g1
          simp only [verOf, Option.some.injEq] at g1
          have hxe := g2 g1
          obtain ⟨cs, e5⟩ := builtin_run (P := P) (a := a) ho hc w
          have run : ∀ {x' : Value} {w' : World}, (Builtin.clear_ #[t] o.type #[x]).run P w = .ok x' w' → (execOp a.eval o).run P w = .ok (.value x') w' := fun hh => by
            rw [e5]
            simp [builtin, e1, e2, hh]
          have nothing : ∀ {ad : Option Addr} {cap : Nat}, E.cv c0 = .slice ad l.length cap → l.length = k → Oper.wp P o a w K Q := by
            intro ad cap he hlk
            have hx0 := hxe _ _ _ he
            rw [hlk, Nat.sub_self] at hx0
            have hrun := run (x' := .tuple #[]) (w' := w) (by
              rw [hx0]
              cases hq : (if cap = k then ad else Option.map (fun x => x.add (k * ks.length)) ad) <;> simp [Builtin.clear_, run_underlying h1])
            unfold Oper.wp
            rw [hrun]
            refine hK E _ _ ?_
            have hll : l.take k ++ List.replicate (l.length - k) (elOf Le.zero) = l := by rw [hlk, Nat.sub_self, List.take_of_length_le (by omega)]; simp
            rw [hll]
            rcases hl : E.loc c0 with _ | g
            · exact (h.val (dOk_lt hd) (x := .tuple #[]) (v := .any) (.conc _ _ (.any _))).congr (fun _ => rfl) (fun k => by
                show lkO ([(c0, Chunk.row v' e' ks l)] ++ s.mem) k = lkO ([] ++ s.mem) k
                rw [List.singleton_append, lkO_cons, List.nil_append]
                split
                · rename_i q; rw [← q, hm]
                · rfl)
            · exact h.storeRow hm hl (fun _ _ => rfl) rfl ⟨rfl, rfl, rfl⟩ hrow (dOk_lt hd) (.conc _ _ (.any _))
          obtain ⟨t1, ⟨t2, xs, t3, t4⟩ | ⟨z1, z2, ad0, z3⟩⟩ := id hrow
          rotate_left
          · have hl0 : l.length = 0 := by rw [z1]; rfl
            exact nothing (ad := ad0) (cap := 0) (by rw [z3, hl0]) (by omega)
          rcases t3.2 with ⟨q1, q2⟩ | ⟨g, cap, cur, c1, c2, c3, c4, c5, c6, c7⟩
          · exact nothing (ad := none) (cap := 0) (by rw [q1, q2]) (by omega)
          · by_cases hlk : l.length = k
            · exact nothing c1 hlk
            have hl : E.loc c0 = some g := by rw [t2, c1]; rfl
            have hx0 := hxe _ _ _ c1
            rw [if_neg (by omega)] at hx0
            have hzs : z.cells.size = ks.length := i5
            have hlen2 : (Builtin.zeroCells z.cells (l.length - k)).toList.length = (l.length - k) * ks.length := by simp [Builtin.zeroCells, hzs]
            have hcap : l.length * ks.length ≤ cur.size := by rw [c6]; exact Nat.mul_le_mul_right _ c4
            have hsum : k * ks.length + (l.length - k) * ks.length = l.length * ks.length := by rw [← Nat.add_mul]; congr 1; omega
            have zget : ∀ i j, i < l.length - k → j < ks.length → (Builtin.zeroCells z.cells (l.length - k)).toList.getD (i * ks.length + j) undef = z.cells.getD j undef := fun i j hi hj => by
              have := made_getD (z := z.cells) (n := l.length - k) (i := i) (j := j) (by omega) hi (by omega)
              unfold madeCells at this
              unfold Builtin.zeroCells
              rw [← hzs]
              exact this
            have h1c : ∀ v ∈ (Builtin.zeroCells z.cells (l.length - k)).toList, v.oneCell' = true := fun v hv => by
              obtain ⟨i, hi⟩ := List.getElem?_of_mem hv
              have hlt := (List.getElem?_eq_some_iff.1 hi).1
              rw [hlen2] at hlt
              have hj : i % ks.length < ks.length := Nat.mod_lt _ p6
              have hi2 : i / ks.length < l.length - k := Nat.div_lt_of_lt_mul (by rw [Nat.mul_comm]; exact hlt)
              have := zget _ _ hi2 hj
              rw [Nat.mul_comm, Nat.div_add_mod, List.getD_eq_getElem?_getD, hi] at this
              have this : v = z.cells.getD (i % ks.length) undef := this
              rw [this]
              exact kOk_one (plainK_get p5 _ hj) (kB_ok7 (k2 _ hj)).1 (i7 E.I w _)
            have hst := run_storeCells_at P g (k * ks.length) e' (Builtin.zeroCells z.cells (l.length - k)).toList 0 cur w c3 (by rw [hlen2]; omega) h1c
            generalize hcu : (cur.toList.take (k * ks.length + 0) ++ (Builtin.zeroCells z.cells (l.length - k)).toList ++ cur.toList.drop (k * ks.length + 0 + (Builtin.zeroCells z.cells (l.length - k)).toList.length)).toArray = cur' at hst
            have hrun := run (x' := .tuple #[]) (w' := w.setRow g cur') (by
              rw [hx0]
              obtain ⟨m, hm'⟩ : ∃ m, l.length - k = m + 1 := ⟨l.length - k - 1, by omega⟩
              have hzv : (zeroValue et).run P w = .ok z w := run_zero i1 i4 w
              have hadd : (Addr.add ⟨g, 0, none⟩ (k * ks.length)) = ⟨g, k * ks.length, none⟩ := by rw [addr_add, Nat.zero_add]
              rw [hm'] at hst ⊢
              simp [Builtin.clear_, run_underlying h1, hzv, hadd, hst])
            have hcs : cur'.size = cur.size := by rw [← hcu]; simp only [List.size_toArray, List.length_append, List.length_take, List.length_drop, Array.length_toList, hlen2]; omega
            have hheap := setRow_heap w g cur cur' e' (0, 0) c3
            have hI : ∀ k, E.I k → (w.setRow g cur').heap[k]? = w.heap[k]? := fun k hk => setRow_other _ _ _ _ (fun e => (h.loc c0 g hl).2.1 (e ▸ hk))
            have hgd : ∀ j, cur'.getD j undef = if k * ks.length ≤ j ∧ j < l.length * ks.length then (Builtin.zeroCells z.cells (l.length - k)).toList.getD (j - k * ks.length) undef else cur.getD j undef := fun j => by
              have := storeRow_getD cur (Builtin.zeroCells z.cells (l.length - k)) (k * ks.length) j (by rw [← Array.length_toList, hlen2]; omega)
              rw [← Array.length_toList, hlen2, hsum] at this
              simp only [Nat.add_zero, hlen2, hsum] at hcu
              rw [hcu] at this
              rw [this]
              simp only [Array.getD_eq_getD_getElem?, List.getD_eq_getElem?_getD, Array.getElem?_toList]
            have hll : (l.take k ++ List.replicate (l.length - k) (elOf Le.zero)).length = l.length := by
              simp only [List.length_append, List.length_take, List.length_replicate]; omega
            have hget : ∀ i, i < l.length → (l.take k ++ List.replicate (l.length - k) (elOf Le.zero)).getD i .any = if i < k then l.getD i .any else elOf Le.zero := fun i hi => by
              simp only [List.getD_eq_getElem?_getD, List.getElem?_append, List.length_take, List.getElem?_take, List.getElem?_replicate]
              rw [show min k l.length = k by omega]
              by_cases hik : i < k
              · rw [if_pos hik, if_pos hik, if_pos hik]
              · rw [if_neg hik, if_neg hik, if_pos (by omega)]; rfl
            unfold Oper.wp
            rw [hrun]
            refine hK E _ _ (h.storeRow hm hl (fun k hk => setRow_other _ _ _ _ hk) (by simp [World.setRow]) ⟨rfl, rfl, rfl⟩ ⟨fun v hv => ?_, .inl ⟨t2, (cur'.toList.take (l.length * ks.length)), ⟨?_, .inr ⟨g, cap, cur', ?_, c2, hheap, ?_, c5, by rw [hcs]; exact c6, ?_⟩⟩, fun i j hi hj => ?_⟩⟩ (dOk_lt hd) (.conc _ _ (.any _)))
            · rcases List.mem_append.1 hv with hv | hv
              · exact t1 _ (List.mem_of_mem_take hv)
              · have := List.eq_of_mem_replicate hv
                subst this
                exact ⟨by rw [hel, i6], fun j hj => by rw [hel]; exact (kB_ok7 (k2 j hj)).1⟩
            · rw [hll]; simp only [List.length_take, Array.length_toList]; omega
            · rw [hll, c1]
            · rw [hll]; exact c4
            · rw [hll]
            · rw [hll] at hi
              have hlt : i * ks.length + j < l.length * ks.length := by
                have : (i + 1) * ks.length ≤ l.length * ks.length := Nat.mul_le_mul_right _ hi
                rw [Nat.add_mul, Nat.one_mul] at this
                omega
              have g1 : (cur'.toList.take (l.length * ks.length)).getD (i * ks.length + j) undef = cur'.getD (i * ks.length + j) undef := by
                rw [List.getD_eq_getElem?_getD, List.getElem?_take, if_pos hlt, Array.getD_eq_getD_getElem?, Array.getElem?_toList]
              have g2 : xs.getD (i * ks.length + j) undef = cur.getD (i * ks.length + j) undef := by
                rw [← c7, List.getD_eq_getElem?_getD, List.getElem?_take, if_pos hlt, Array.getD_eq_getD_getElem?, Array.getElem?_toList]
              have hold := t4 i j hi hj
              rw [g2] at hold
              rw [g1, hgd]
              unfold elCell
              rw [hget i hi]
              by_cases hik : i < k
              · have hlt2 : i * ks.length + j < k * ks.length := by
                  have : (i + 1) * ks.length ≤ k * ks.length := Nat.mul_le_mul_right _ hik
                  rw [Nat.add_mul, Nat.one_mul] at this
                  omega
                rw [if_pos hik, if_neg (by omega)]
                exact hold.mono (fun _ h => h) hI
              · have hge : k * ks.length ≤ i * ks.length := Nat.mul_le_mul_right _ (by omega)
                rw [if_neg hik, if_pos ⟨by omega, hlt⟩, hel]
                have : i * ks.length + j - k * ks.length = (i - k) * ks.length + j := by rw [Nat.sub_mul]; omega
                rw [this, zget _ _ (by omega) hj]
                exact (i7 _ _ j)
      · exact hob.elim
    · exact hob.elim
  · exact hob.elim

/-- Every operation does what the executor says. -/
theorem sound_op (hP : CxOk P cx) (o : Oper) : Sound cx P o := by
  cases ho : o.op with
  | move y => exact sound_move ho
  | assign y => exact sound_assign ho
  | pick c x y => exact sound_pick ho
  | alloc t => exact sound_alloc hP ho
  | box t y => exact sound_box ho
  | build t ps => exact sound_build hP ho
  | buildSlice t n ps => exact sound_buildSlice hP ho
  | load t y => exact sound_load hP ho
  | store t y z => exact sound_store hP ho
  | fieldAddr t y f => exact sound_fieldAddr hP ho
  | indexAddr t y z => exact sound_indexAddr hP ho
  | index t y z => exact sound_index hP ho
  | field t y f => exact sound_field hP ho
  | binOp op t y z t2 => exact sound_binOp hP ho
  | unOp op t y => exact sound_unOp ho
  | convert t d y => exact sound_convert hP ho
  | extract y i => exact sound_extract ho
  | nilCheck y => exact sound_nilCheck ho
  | makeFunc f first caps => exact sound_makeFunc ho
  | makeSlice t len cap => exact sound_makeSlice hP ho
  | makeMap t r =>
    cases r with
    | none => exact sound_makeMap hP ho
    | some r => intro B M I0 G w0 E s a w K Q h hd hob hK; simp [opx, ho, opE, Eff.bad, obH] at hob
  | lookup t y z ok => exact sound_lookup hP ho
  | mapUpdate t y z u => exact sound_put hP (.inl ho)
  | insert t y z u => exact sound_put hP (.inr ho)
  | mapEntry t y z => exact sound_entMap hP ho
  | entryStore t y z u => exact sound_stoMap ho
  | range t y => exact sound_range hP ho
  | entry y => exact sound_itMap ho
  | slice t y lo hi mx =>
    cases mx with
    | none => exact sound_slice hP ho
    | some m =>
      cases lo with
      | some l => intro B M I0 G w0 E s a w K Q h hd hob hK; simp [opx, ho, opE, Eff.bad, obH] at hob
      | none =>
        cases hi with
        | none => intro B M I0 G w0 E s a w K Q h hd hob hK; simp [opx, ho, opE, Eff.bad, obH] at hob
        | some h => exact sound_slice3 hP ho
  | call c =>
    cases hc : c.callee with
    | value f => exact sound_call hP ho hc
    | builtin b =>
      by_cases h1 : b = .len
      · subst h1; exact sound_len hP ho hc
      · by_cases h2 : b = .min
        · subst h2; exact sound_min ho hc
        · by_cases h3 : b = .max
          · subst h3; exact sound_max ho hc
          · by_cases h4 : b = .append
            · subst h4; exact sound_append hP ho hc
            · by_cases h5 : b = .complex
              · subst h5; exact sound_complex ho hc
              by_cases h6 : b = .real
              · subst h6; exact sound_real ho hc
              by_cases h7 : b = .imag
              · subst h7; exact sound_imag ho hc
              by_cases h9 : b = .delete
              · subst h9; exact sound_delete hP ho hc
              by_cases h10 : b = .clear
              · subst h10; exact sound_clear hP ho hc
              by_cases h8 : b = .copy
              · subst h8; exact sound_copy hP ho hc
              intro B M I0 G w0 E s a w K Q h hd hob hK
              cases b <;> first | exact absurd rfl h1 | exact absurd rfl h2 | exact absurd rfl h3 | exact absurd rfl h4 | exact absurd rfl h5 | exact absurd rfl h6 | exact absurd rfl h7 | exact absurd rfl h8 | exact absurd rfl h9 | exact absurd rfl h10 | (simp [opx, ho, opE, hc, builtinOf, Eff.bad, obH] at hob)
    | invoke r m => intro B M I0 G w0 E s a w K Q h hd hob hK; simp [opx, ho, opE, hc, Eff.bad, obH] at hob
  | _ => intro B M I0 G w0 E s a w K Q h hd hob hK; simp [opx, ho, opE, Eff.bad, obH] at hob
end
end Go.Rx

/- The framework, part 16: regions, in the order of the text. -/
namespace Go.Rx
set_option linter.unusedSectionVars false
open Go.RowKit

/-- What an operation has come to, its test decided. -/
def Refines (E e : Eff) : Prop := e.ch = E.ch ∧ e.rd = E.rd ∧ (e.v = E.v ∨ (E.v = .bool true ∧ e.v = .tt) ∨ (E.v = .bool false ∧ e.v = .ff))

def Step (cx : Cx) (all : List Oper) (s : St) (o : Oper) (e : Eff) : Prop :=
  (wantB all s.tm o = some true ∧ obH (opx cx s.mem (ev s.tm) o).ob ∧ Refines (opx cx s.mem (ev s.tm) o) e) ∨ (wantB all s.tm o = some false ∧ e.v = .und ∧ e.ch = [] ∧ e.rd = [])

/-- A way through a region's operations. -/
def Path (cx : Cx) (all : List Oper) : List Oper → St → List Eff → Prop
  | [], _, es => es = []
  | o :: r, s, es => ∃ e es', es = e :: es' ∧ dOk cx o.dst = true ∧ Step cx all s o e ∧ Path cx all r (upd s o.dst e.v e.ch) es'

theorem obA_and {o : Option Prop} {p : Prop} (h : obA o p) : obH o ∧ p := by
  cases o with
  | none => exact ⟨trivial, h⟩
  | some q => exact h

def endS : List Oper → List Eff → St → St
  | o :: r, e :: es, s => endS r es (upd s o.dst e.v e.ch)
  | _, _, s => s

def endF : Nat → List Eff → List (Nat × Eff) → List (Nat × Eff)
  | _, [], fs => fs
  | i, e :: es, fs => endF (i + 1) es ((i, e) :: fs)

section
variable {cx : Cx} {P : Program} [Laid P] {B : Nat} {M I0 : Nat → Prop} {G : Nat → Value} {w0 : World} {E : Env} {s : St} {a : Act} {w : World} {o : Oper} {K : Act → World → Prop} {Q : Exit → Act → World → Prop}

theorem plV_is (pl : Bool) (v : SV) : plV pl v = v ∨ (v = .bool true ∧ plV pl v = .tt) ∨ (v = .bool false ∧ plV pl v = .ff) := by
  cases pl with
  | false => exact .inl rfl
  | true =>
    cases v with
    | bool b => cases b; exact .inr (.inr ⟨rfl, rfl⟩); exact .inr (.inl ⟨rfl, rfl⟩)
    | _ => exact .inl rfl

theorem wpR_path (all : List Oper) (R : St → List (Nat × Eff) → Prop) : ∀ (l : List Oper) (i : Nat) (s : St) (fs : List (Nat × Eff)), wpR cx all R l i s fs → ∃ es, Path cx all l s es ∧ R (endS l es s) (endF i es fs)
  | [], i, s, fs, h => ⟨[], rfl, h⟩
  | o :: r, i, s, fs, h => by
    unfold wpR at h
    split at h
    · rename_i hd hw
      generalize hE : opx cx s.mem (ev s.tm) o = E at h
      obtain ⟨ob, v, ch, rd⟩ := E
      dsimp only at h
      obtain ⟨h1, h2⟩ := obA_and h
      rw [forceV_eq, forceB_eq] at h2
      have hpv := plV_is cx.pl v
      generalize plV cx.pl v = pv at h2 hpv
      split at h2
      · rename_i b _
        have hvb : v = .bool b := by
          rcases hpv with h | ⟨_, h⟩ | ⟨_, h⟩
          · exact h.symm
          · cases h
          · cases h
        subst hvb
        cases b with
        | true =>
          obtain ⟨es, p1, p2⟩ := wpR_path all R r (i + 1) _ _ (by have := h2.1 rfl; rw [forceD_eq] at this; exact this)
          exact ⟨⟨ob, .tt, ch, rd⟩ :: es, ⟨_, es, rfl, hd, .inl ⟨hw, by rw [hE]; exact h1, by rw [hE]; exact ⟨rfl, rfl, .inr (.inl ⟨rfl, rfl⟩)⟩⟩, p1⟩, p2⟩
        | false =>
          obtain ⟨es, p1, p2⟩ := wpR_path all R r (i + 1) _ _ (by have := h2.2 rfl; rw [forceD_eq] at this; exact this)
          exact ⟨⟨ob, .ff, ch, rd⟩ :: es, ⟨_, es, rfl, hd, .inl ⟨hw, by rw [hE]; exact h1, by rw [hE]; exact ⟨rfl, rfl, .inr (.inr ⟨rfl, rfl⟩)⟩⟩, p1⟩, p2⟩
      · obtain ⟨es, p1, p2⟩ := wpR_path all R r (i + 1) _ _ h2
        exact ⟨⟨ob, _, ch, rd⟩ :: es, ⟨_, es, rfl, hd, .inl ⟨hw, by rw [hE]; exact h1, by rw [hE]; exact ⟨rfl, rfl, hpv⟩⟩, p1⟩, p2⟩
    · rename_i hd hw
      obtain ⟨es, p1, p2⟩ := wpR_path all R r (i + 1) _ _ h
      exact ⟨⟨none, .und, [], []⟩ :: es, ⟨_, es, rfl, hd, .inr ⟨hw, rfl, rfl, rfl⟩, p1⟩, p2⟩
    · exact h.elim

theorem wantB_run (h : Rel P cx.nt B M I0 G w0 E s a w) {ops : Array Oper} {b : Bool} (hw : wantB ops.toList s.tm o = some b) : Region.wanted o (yielded ops a.tmps) = b := by
  unfold wantB at hw
  unfold Region.wanted
  cases hg : o.guard with
  | none => simp only [hg, Option.some.injEq] at hw; exact hw
  | some g =>
    obtain ⟨j, want⟩ := g
    simp only [hg] at hw
    cases hj : ops.toList[j]? with
    | none => simp only [hj] at hw; cases hw
    | some oj =>
      simp only [hj] at hw
      cases hd : oj.dst with
      | none => simp only [hd] at hw; cases hw
      | some d =>
        simp only [hd] at hw
        have hy : yielded ops a.tmps j = (match a.tmps[d]? with | some (.bool b) => some b | _ => none) := by
          have hj' : ops[j]? = some oj := by simpa using hj
          simp only [yielded, hj', hd, Option.bind_some]
          cases a.tmps[d]? with
          | none => rfl
          | some u => cases u <;> rfl
        have ht := h.tm d
        have hv : ∀ v, a.tmps.getD d undef = .bool v → a.tmps[d]? = some (.bool v) := fun v hv => by
          rw [Array.getD_eq_getD_getElem?] at hv
          cases hq : a.tmps[d]? with
          | none => rw [hq] at hv; simp [undef] at hv
          | some u => rw [hq] at hv; simp at hv; rw [hv]
        have hu : a.tmps.getD d undef = undef → (match a.tmps[d]? with | some (.bool b) => some b | _ => none) = none := fun hv => by
          rw [Array.getD_eq_getD_getElem?] at hv
          cases hq : a.tmps[d]? with
          | none => rfl
          | some u => rw [hq] at hv; simp at hv; rw [hv]; rfl
        dsimp only
        rw [hy]
        split at hw <;> (try cases hw) <;> rename_i e1 <;> rw [e1] at ht
        · rw [hv _ ht.inv_tt]; rfl
        · rw [hv _ ht.inv_ff]; rfl
        · rw [hv _ ht.inv_tt]; rfl
        · rw [hv _ ht.inv_ff]; rfl
        · rw [hu ht.inv_und]; rfl

theorem Rel.refine {v v' : SV} {d : Option Nat} {ch : List (Nat × Chunk)} (h : Rel P cx.nt B M I0 G w0 E (upd s d v ch) a w) (hv : ∀ m x, CV E m w x v → CV E m w x v') : Rel P cx.nt B M I0 G w0 E (upd s d v' ch) a w := by
  refine ⟨h.defers, h.tsize, h.fr, h.base, h.i0, h.inew, h.loc, h.inj, fun t => ?_, h.ch, h.ld, h.gv⟩
  have ht := h.tm t
  cases d with
  | none => exact ht
  | some d =>
    simp only [upd] at ht ⊢
    rw [lk_cons] at ht ⊢
    by_cases e : d = t
    · rw [if_pos e] at ht ⊢; exact hv _ _ ht
    · rw [if_neg e] at ht ⊢; exact ht

/-- One operation of a region. -/
theorem op_step (hP : CxOk P cx) (h : Rel P cx.nt B M I0 G w0 E s a w) {ops : Array Oper} {i : Nat} {e : Eff} (hi : ops[i]? = some o) (hd : dOk cx o.dst = true) (hs : Step cx ops.toList s o e)
    (hK : ∀ E' a' w', Rel P cx.nt B M I0 G w0 E' (upd s o.dst e.v e.ch) a' w' → K a' w') : wpOp P ops Q i K a w := by
  unfold wpOp
  simp only [hi]
  rcases hs with ⟨hw, hob, h1, h2, h3⟩ | ⟨hw, h1, h2, h3⟩
  · rw [if_pos (wantB_run h hw)]
    refine .inl (sound_op hP o B M I0 G w0 E s a w K Q h hd hob (fun E' a' w' h' => hK E' a' w' ?_))
    rw [h1]
    rcases h3 with h3 | ⟨h3, h4⟩ | ⟨h3, h4⟩
    · rw [h3]; exact h'
    · rw [h4]
      rw [h3] at h'
      exact h'.refine (fun m x hx => by rw [hx.inv_bool]; exact .conc _ _ .tt)
    · rw [h4]
      rw [h3] at h'
      exact h'.refine (fun m x hx => by rw [hx.inv_bool]; exact .conc _ _ .ff)
  · rw [if_neg (by rw [wantB_run h hw]; simp)]
    rw [h1, h2] at hK
    exact hK E _ w (h.val (dOk_lt hd) (.conc _ _ .und))

/-- The operations, in the order of the text. -/
theorem ops_run (hP : CxOk P cx) {ops : Array Oper} {R : St → Prop} (hR : ∀ E s a w, Rel P cx.nt B M I0 G w0 E s a w → R s → Q .normal a w) :
    ∀ (l : List Oper) (i : Nat) (E : Env) (s : St) (es : List Eff) (a : Act) (w : World), (∀ j, l[j]? = ops[i + j]?) → Rel P cx.nt B M I0 G w0 E s a w → Path cx ops.toList l s es → R (endS l es s) → wpOps P ops Q (List.range' i l.length) a w
  | [], i, E, s, es, a, w, _, h, hp, hr => by
    simp only [endS] at hr
    simp only [List.length_nil, List.range'_zero, wpOps]
    exact hR E s a w h hr
  | o :: r, i, E, s, es, a, w, hl, h, hp, hr => by
    obtain ⟨e, es', rfl, hd, hs, hp'⟩ := hp
    simp only [List.length_cons, List.range'_succ, wpOps_cons]
    refine op_step hP h (by simpa using (hl 0).symm) hd hs (fun E' a' w' h' => ?_)
    exact ops_run hP hR r (i + 1) E' _ es' a' w' (fun j => by have := hl (j + 1); simpa [Nat.add_assoc, Nat.add_comm 1 j] using this) h' hp' hr

theorem region_run (hP : CxOk P cx) {ops : Array Oper} {id : Nat} {R : St → Prop} (hR : ∀ E s a w, Rel P cx.nt B M I0 G w0 E s a w → R s → Q .normal a w) (h : Rel P cx.nt B M I0 G w0 E s a w) {es : List Eff} (hp : Path cx ops.toList ops.toList s es) (hr : R (endS ops.toList es s)) :
    (Code.region id ops false).wp P Q a w := by
  refine wp_region ?_
  rw [List.range_eq_range', ← Array.length_toList]
  exact ops_run hP hR ops.toList 0 E s es a w (by simp) h hp hr
end
end Go.Rx

/- The framework, part 17: what an operation looks at. -/
namespace Go.Rx
set_option linter.unusedSectionVars false
open Go.RowKit

/-- Memory is the same at these names. -/
def Same (m m' : List (Nat × Chunk)) (cs : List Nat) : Prop := ∀ c, c ∈ cs → lkO m' c = lkO m c

theorem Same.left {m m' : List (Nat × Chunk)} {a b : List Nat} (h : Same m m' (a ++ b)) : Same m m' a := fun c hc => h c (List.mem_append.2 (.inl hc))
theorem Same.right {m m' : List (Nat × Chunk)} {a b : List Nat} (h : Same m m' (a ++ b)) : Same m m' b := fun c hc => h c (List.mem_append.2 (.inr hc))

theorem nilCmp_same {m m' : List (Nat × Chunk)} {op : BinOp} {a b : SV} (hob : obH (nilCmp m op a b).ob) (h : Same m m' (nilCmp m op a b).rd) : nilCmp m' op a b = nilCmp m op a b := by
  unfold nilCmp at hob h ⊢
  cases op <;> first | rfl | skip
  cases b <;> first | rfl | skip
  cases a <;> first | rfl | skip
  rename_i c ver
  simp only at hob h ⊢
  cases hm : lkO m c with
  | none => simp only [hm] at hob; exact hob.elim
  | some ch =>
    simp only [hm] at hob h
    cases ch <;> simp only at hob h <;> try exact hob.elim
    · rename_i v e ks l
      cases hq : Nat.beq v ver with
      | false => simp only [hq] at hob; exact hob.elim
      | true =>
        simp only [hq] at h
        rw [h c (List.mem_singleton.2 rfl), hm]
    · rename_i v ks l
      cases hq : Nat.beq v ver with
      | false => simp only [hq] at hob; exact hob.elim
      | true =>
        simp only [hq] at h
        rw [h c (List.mem_singleton.2 rfl), hm]
theorem sl3_same {Le : TyL} {m m' : List (Nat × Chunk)} {x : SV} {a b : Int} (hob : obH (sl3Of Le m x a b).ob) (h : Same m m' (sl3Of Le m x a b).rd) : sl3Of Le m' x a b = sl3Of Le m x a b := by
  unfold sl3Of at hob h ⊢
  cases x <;> first | rfl | skip
  rename_i c ver
  simp only at hob h ⊢
  cases hm : lkO m c with
  | none => simp only [hm] at hob; exact hob.elim
  | some ch =>
    simp only [hm] at hob h
    cases ch <;> simp only at hob h <;> try exact hob.elim
    · rename_i v e' ks l
      cases hq : (Nat.beq v ver && Nat.beq Le.ks.length ks.length) with
      | false => simp only [hq] at hob; exact hob.elim
      | true =>
        simp only [hq] at h
        rw [h c (List.mem_singleton.2 rfl), hm]
    · rename_i v ks l
      cases hq : (Nat.beq v ver && Nat.beq Le.ks.length ks.length) with
      | false => simp only [hq] at hob; exact hob.elim
      | true =>
        simp only [hq] at h
        rw [h c (List.mem_singleton.2 rfl), hm]
theorem slPart_rd {Le : TyL} {ks : List CK} {l : List SV} {rd : List Nat} {lo hi : Option SV} (h : obH (slPart Le ks l rd lo hi).ob) : (slPart Le ks l rd lo hi).rd = rd := by
  unfold slPart at h ⊢
  split at h
  · split at h <;> first | rfl | exact h.elim
  · exact h.elim
theorem oneB_same {m m' : List (Nat × Chunk)} : ∀ (v : SV), Same m m' (names v) → oneB m' v = oneB m v
  | .osl c ver, h => by simp only [oneB, h c (List.mem_singleton.2 rfl)]
  | .any, _ => rfl
  | .und, _ => rfl
  | .int _ _, _ => rfl
  | .bool _, _ => rfl
  | .tt, _ => rfl
  | .ff, _ => rfl
  | .str _, _ => rfl
  | .flt _, _ => rfl
  | .cpx _ _, _ => rfl
  | .agg _, _ => rfl
  | .tup _, _ => rfl
  | .ptr _ _, _ => rfl
  | .ptx _ _, _ => rfl
  | .rptr _ _ _ _ _, _ => rfl
  | .sl _ _, _ => rfl
  | .ep _ _ _ _, _ => rfl
  | .oep _ _ _ _ _, _ => rfl
  | .nb _, _ => rfl
  | .fsl _ _, _ => rfl
  | .own _ _ _, _ => rfl
  | .lp _ _, _ => rfl
  | .mpp _, _ => rfl
  | .itp _, _ => rfl
  | .otl _ _ _ _, _ => rfl
  | .nilsl, _ => rfl
  | .nilp, _ => rfl
  | .fn _ _, _ => rfl
theorem cellsB_same {m m' : List (Nat × Chunk)} (v : SV) (h : Same m m' (names v)) : cellsB m' v = cellsB m v := by
  cases v <;> first | rfl | exact oneB_same _ h
theorem oneL_same {m m' : List (Nat × Chunk)} : ∀ (l : List SV), Same m m' (namesL l) → oneL m' l = oneL m l
  | [], _ => rfl
  | v :: r, h => by
    simp only [namesL] at h
    simp only [oneL, oneB_same v h.left, oneL_same r h.right]
theorem oneL_cells_same {m m' : List (Nat × Chunk)} (v : SV) (h : Same m m' (names v)) : oneL m' v.cells = oneL m v.cells := by
  by_cases hv : ∃ cs, v = .agg cs
  · obtain ⟨cs, rfl⟩ := hv; exact oneL_same cs h
  · have e : v.cells = [v] := by cases v <;> first | rfl | (exact absurd ⟨_, rfl⟩ hv)
    rw [e]
    simp only [oneL, oneB_same v h]

mutual
theorem resolve_same {m m' : List (Nat × Chunk)} : ∀ (v : SV), Same m m' (names v) → resolve m' v = resolve m v
  | .osl c ver, h => by simp only [resolve, h c (List.mem_singleton.2 rfl)]
  | .agg cs, h => by simp only [resolve, resolveL_same cs h]
  | .tup cs, h => by simp only [resolve, resolveL_same cs h]
  | .fn f cs, h => by simp only [resolve, resolveL_same cs h]
  | .any, _ => rfl
  | .und, _ => rfl
  | .int _ _, _ => rfl
  | .bool _, _ => rfl
  | .tt, _ => rfl
  | .ff, _ => rfl
  | .str _, _ => rfl
  | .flt _, _ => rfl
  | .cpx _ _, _ => rfl
  | .ptr _ _, _ => rfl
  | .ptx _ _, _ => rfl
  | .rptr _ _ _ _ _, _ => rfl
  | .sl _ _, _ => rfl
  | .ep _ _ _ _, _ => rfl
  | .oep _ _ _ _ _, _ => rfl
  | .nb _, _ => rfl
  | .fsl _ _, _ => rfl
  | .own _ _ _, _ => rfl
  | .lp _ _, _ => rfl
  | .mpp _, _ => rfl
  | .itp _, _ => rfl
  | .otl _ _ _ _, _ => rfl
  | .nilsl, _ => rfl
  | .nilp, _ => rfl
theorem resolveL_same {m m' : List (Nat × Chunk)} : ∀ (l : List SV), Same m m' (namesL l) → resolveL m' l = resolveL m l
  | [], _ => rfl
  | v :: r, h => by
    simp only [namesL] at h
    simp only [resolveL, resolve_same v h.left, resolveL_same r h.right]
end
theorem resolveL_cells_same {m m' : List (Nat × Chunk)} (v : SV) (h : Same m m' (names v)) : resolveL m' v.cells = resolveL m v.cells := by
  by_cases hv : ∃ cs, v = .agg cs
  · obtain ⟨cs, rfl⟩ := hv; exact resolveL_same cs h
  · have e : v.cells = [v] := by cases v <;> first | rfl | (exact absurd ⟨_, rfl⟩ hv)
    rw [e]
    simp only [resolveL, resolve_same v h]
theorem freezes_same {m m' : List (Nat × Chunk)} : ∀ (l : List Nat), Same m m' l → freezes m' l = freezes m l
  | [], _ => rfl
  | c :: r, h => by
    simp only [freezes, h c (List.mem_cons_self ..), freezes_same r (fun c hc => h c (List.mem_cons_of_mem _ hc))]

theorem lendC_same {m m' : List (Nat × Chunk)} (v : SV) (h : Same m m' (namC v)) : lendC m' v = lendC m v := by
  cases v with
  | mpp d => simp only [lendC, h d (List.mem_singleton.2 rfl)]
  | _ => exact resolve_same _ h
theorem lendCs_same {m m' : List (Nat × Chunk)} : ∀ (cs : List SV), Same m m' (namCs cs) → lendCs m' cs = lendCs m cs
  | [], _ => rfl
  | v :: r, h => by
    simp only [namCs] at h
    simp only [lendCs, lendC_same v h.left, lendCs_same r h.right]
theorem lend_same {m m' : List (Nat × Chunk)} (v : SV) (h : ∀ c off, v = .ptr c off → lkO m' c = lkO m c) (h2 : Same m m' (lnames m v)) : lend m' v = lend m v ∧ lnames m' v = lnames m v := by
  cases v with
  | ptr c off =>
    cases off with
    | succ n => exact ⟨rfl, rfl⟩
    | zero =>
      have e := h c 0 rfl
      simp only [lend, lnames] at h2 ⊢
      rw [e]
      cases hm : lkO m c with
      | none => exact ⟨rfl, rfl⟩
      | some ch =>
        rw [hm] at h2
        cases ch with
        | box t cs => exact ⟨by simp only [lendCs_same cs h2], rfl⟩
        | row => exact ⟨rfl, rfl⟩
        | froz => exact ⟨rfl, rfl⟩
        | gh => exact ⟨rfl, rfl⟩
        | mp => exact ⟨rfl, rfl⟩
        | it => exact ⟨rfl, rfl⟩
  | osl c ver => exact ⟨resolve_same _ h2, rfl⟩
  | agg cs => exact ⟨resolve_same _ h2, rfl⟩
  | tup cs => exact ⟨resolve_same _ h2, rfl⟩
  | fn f cs => exact ⟨resolve_same _ h2, rfl⟩
  | _ => exact ⟨rfl, rfl⟩
theorem lendL_same {m m' : List (Nat × Chunk)} : ∀ (vs : List SV), Same m m' (lboxes vs) → Same m m' (lnamesL m vs) → lendL m' vs = lendL m vs ∧ lnamesL m' vs = lnamesL m vs
  | [], _, _ => ⟨rfl, rfl⟩
  | v :: r, h, h2 => by
    simp only [lnamesL] at h2
    obtain ⟨a1, a2⟩ := lend_same v (fun c off e => h c (by subst e; exact List.mem_cons_self ..)) h2.left
    obtain ⟨b1, b2⟩ := lendL_same r (fun c hc => h c (by cases v <;> first | exact hc | exact List.mem_cons_of_mem _ hc)) h2.right
    exact ⟨by simp only [lendL, a1, b1], by simp only [lnamesL, a2, b2]⟩

theorem rowOf_same {m m' : List (Nat × Chunk)} (v : SV) (h : Same m m' (names v)) : rowOf m' v = rowOf m v := by
  cases v <;> first | rfl | (simp only [rowOf, h _ (List.mem_singleton.2 rfl)])
theorem rowOf_rd {m : List (Nat × Chunk)} {v : SV} {ks : List CK} {l : List SV} {rd : List Nat} (h : rowOf m v = some (ks, l, rd)) : rd = names v := by
  cases v <;> simp only [rowOf, reduceCtorEq, Option.some.injEq, Prod.mk.injEq] at h
  · rename_i c ver
    split at h
    · split at h
      · simp only [Option.some.injEq, Prod.mk.injEq] at h; exact h.2.2.symm
      · cases h
    · split at h
      · simp only [Option.some.injEq, Prod.mk.injEq] at h; exact h.2.2.symm
      · cases h
    · cases h
  · exact h.2.2.symm
  · exact h.2.2.symm
  · exact h.2.2.symm

theorem fillS_same {m m' : List (Nat × Chunk)} {g : Operand → SV} {place : Nat → Option (Nat × Nat)} : ∀ (ps : List (Nat × Operand)) (cs : List SV), Same m m' (namesL (ps.map fun p => g p.2)) → fillS m' g place ps cs = fillS m g place ps cs
  | [], _, _ => rfl
  | (i, x) :: r, cs, h => by
    simp only [List.map_cons, namesL] at h
    simp only [fillS]
    cases place i with
    | none => rfl
    | some p =>
      obtain ⟨off, sz⟩ := p
      simp only [cellsB_same _ h.left]
      split
      · exact fillS_same r _ h.right
      · rfl

theorem fillS_congr {m : List (Nat × Chunk)} {g g' : Operand → SV} {place : Nat → Option (Nat × Nat)} : ∀ (ps : List (Nat × Operand)) (cs : List SV), (∀ p, p ∈ ps → g' p.2 = g p.2) → fillS m g' place ps cs = fillS m g place ps cs
  | [], _, _ => rfl
  | (i, x) :: r, cs, h => by
    have h0 := h (i, x) (List.mem_cons_self ..)
    simp only at h0
    have ih := fun cs => fillS_congr (m := m) (place := place) r cs (fun p hp => h p (List.mem_cons_of_mem _ hp))
    simp only [fillS, h0, ih]

/-- Off other memory: the same, where what it reads is the same. -/
theorem mkMap_same {cx : Cx} {m m' : List (Nat × Chunk)} {dst : Option Nat} {t : Nat} (hob : obH (mkMap cx m dst t).ob) (h : Same m m' (mkMap cx m dst t).rd) : mkMap cx m' dst t = mkMap cx m dst t := by
  cases dst with
  | none => rfl
  | some d =>
    cases ht : tyOf cx t with
    | none => simp only [mkMap, ht]
    | some L =>
      cases hk : L.k <;> try (simp only [mkMap, ht, hk]; done)
      rename_i k e
      cases q1 : tyOf cx k with
      | none => simp only [mkMap, ht, hk, q1]
      | some Lk =>
        cases q2 : tyOf cx e with
        | none => simp only [mkMap, ht, hk, q1, q2]
        | some Le =>
          cases r1 : mpKk Lk with
          | none => simp only [mkMap, ht, hk, q1, q2, r1]
          | some kk =>
            cases r2 : mpVk Le with
            | none => simp only [mkMap, ht, hk, q1, q2, r1, r2]
            | some vk =>
              cases r3 : lkO m (cx.off + d) with
              | some ch => simp only [mkMap, ht, hk, q1, q2, r1, r2, r3] at hob; exact hob.elim
              | none =>
                simp only [mkMap, ht, hk, q1, q2, r1, r2, r3] at h ⊢
                rw [h (cx.off + d) (List.mem_singleton.2 rfl), r3]
theorem putMap_same {cx : Cx} {m m' : List (Nat × Chunk)} {t : Nat} {x k v : SV} (hob : obH (putMap cx m t x k v).ob) (h : Same m m' (putMap cx m t x k v).rd) : putMap cx m' t x k v = putMap cx m t x k v := by
  cases x <;> try rfl
  rename_i c
  cases ht : tyOf cx t with
  | none => simp only [putMap, ht]
  | some L =>
    cases hk : L.k <;> try (simp only [putMap, ht, hk]; done)
    rename_i tk te
    cases hm : lkO m c with
    | none => simp only [putMap, ht, hk, hm] at hob; exact hob.elim
    | some ch =>
      cases ch <;> try (simp only [putMap, ht, hk, hm] at hob; exact hob.elim)
      rename_i t' kk vk l ck
      cases q1 : tyOf cx tk with
      | none => simp only [putMap, ht, hk, hm, q1] at hob; exact hob.elim
      | some Lk =>
        cases q2 : (kkB Lk kk && mpKey kk k && mpVal vk v && !(roK c)) with
        | false => simp only [putMap, ht, hk, hm, q1, q2] at hob; exact hob.elim
        | true =>
          simp only [putMap, ht, hk, hm, q1, q2] at h ⊢
          rw [h c (List.mem_singleton.2 rfl), hm]
          simp only [q1, q2]
theorem lookMap_same {cx : Cx} {m m' : List (Nat × Chunk)} {t : Nat} {x k : SV} {ok : Bool} (hob : obH (lookMap cx m t x k ok).ob) (h : Same m m' (lookMap cx m t x k ok).rd) : lookMap cx m' t x k ok = lookMap cx m t x k ok := by
  cases x <;> try rfl
  rename_i c
  have key : c ∈ (lookMap cx m t (.mpp c) k ok).rd → lookMap cx m' t (.mpp c) k ok = lookMap cx m t (.mpp c) k ok := fun hc => by
    have h1 := h c hc
    cases ht : tyOf cx t with
    | none => simp only [lookMap, ht]
    | some L => simp only [lookMap, ht, h1]
  refine key ?_
  cases ht : tyOf cx t with
  | none => simp only [lookMap, ht] at hob; exact hob.elim
  | some L =>
    cases hk : L.k <;> try (simp only [lookMap, ht, hk] at hob; exact hob.elim)
    rename_i tk te
    cases hm : lkO m c with
    | none => simp only [lookMap, ht, hk, hm] at hob; exact hob.elim
    | some ch =>
      cases ch <;> try (simp only [lookMap, ht, hk, hm] at hob; exact hob.elim)
      rename_i t' kk vk l ck
      cases q1 : tyOf cx tk with
      | none => simp only [lookMap, ht, hk, hm, q1] at hob; exact hob.elim
      | some Lk =>
        cases q2 : tyOf cx te with
        | none => simp only [lookMap, ht, hk, hm, q1, q2] at hob; exact hob.elim
        | some Le =>
          cases q3 : (kkB Lk kk && vkB Le vk && mpKey kk k) with
          | false => simp only [lookMap, ht, hk, hm, q1, q2, q3] at hob; exact hob.elim
          | true =>
            cases q4 : Le.zero with
            | nil => simp only [lookMap, ht, hk, hm, q1, q2, q3, q4] at hob; exact hob.elim
            | cons z r =>
              cases r with
              | cons z2 r2 => simp only [lookMap, ht, hk, hm, q1, q2, q3, q4] at hob; exact hob.elim
              | nil =>
                cases q5 : (mpVal vk z && zB0 z) with
                | false => simp only [lookMap, ht, hk, hm, q1, q2, q3, q4, q5] at hob; exact hob.elim
                | true => simp only [lookMap, ht, hk, hm, q1, q2, q3, q4, q5]; exact List.mem_singleton.2 rfl
theorem delMap_same {cx : Cx} {m m' : List (Nat × Chunk)} {ts : List Nat} {args : List SV} (hob : obH (delMap cx m ts args).ob) (h : Same m m' (delMap cx m ts args).rd) : delMap cx m' ts args = delMap cx m ts args := by
  match ts, args, hob, h with
  | [], _, _, _ => rfl
  | [_], _, _, _ => rfl
  | _ :: _ :: _ :: _, _, _, _ => rfl
  | [_, _], [], _, _ => rfl
  | [_, _], [_], _, _ => rfl
  | [_, _], _ :: _ :: _ :: _, _, _ => rfl
  | [t, t2], [x, k], hob, h =>
    cases x <;> try rfl
    rename_i c
    cases ht : tyOf cx t with
    | none => simp only [delMap, ht]
    | some L =>
      cases hk : L.k <;> try (simp only [delMap, ht, hk]; done)
      rename_i tk te
      cases hm : lkO m c with
      | none => simp only [delMap, ht, hk, hm] at hob; exact hob.elim
      | some ch =>
        cases ch <;> try (simp only [delMap, ht, hk, hm] at hob; exact hob.elim)
        rename_i t' kk vk l ck
        cases q1 : tyOf cx tk with
        | none => simp only [delMap, ht, hk, hm, q1] at hob; exact hob.elim
        | some Lk =>
          cases q2 : (kkB Lk kk && mpKey kk k && !(roK c)) with
          | false => simp only [delMap, ht, hk, hm, q1, q2] at hob; exact hob.elim
          | true =>
            simp only [delMap, ht, hk, hm, q1, q2] at h ⊢
            rw [h c (List.mem_singleton.2 rfl), hm]
            simp only [q1, q2]
theorem entMap_same {cx : Cx} {m m' : List (Nat × Chunk)} {t : Nat} {x k : SV} (hob : obH (entMap cx m t x k).ob) (h : Same m m' (entMap cx m t x k).rd) : entMap cx m' t x k = entMap cx m t x k := by
  cases x <;> try rfl
  rename_i c
  have key : c ∈ (entMap cx m t (.mpp c) k).rd → entMap cx m' t (.mpp c) k = entMap cx m t (.mpp c) k := fun hc => by
    have h1 := h c hc
    cases ht : tyOf cx t with
    | none => simp only [entMap, ht]
    | some L => simp only [entMap, ht, h1]
  refine key ?_
  cases ht : tyOf cx t with
  | none => simp only [entMap, ht] at hob; exact hob.elim
  | some L =>
    cases hk : L.k <;> try (simp only [entMap, ht, hk] at hob; exact hob.elim)
    rename_i tk te
    cases hm : lkO m c with
    | none => simp only [entMap, ht, hk, hm] at hob; exact hob.elim
    | some ch =>
      cases ch <;> try (simp only [entMap, ht, hk, hm] at hob; exact hob.elim)
      rename_i t' kk vk l ck
      cases q1 : tyOf cx tk with
      | none => simp only [entMap, ht, hk, hm, q1] at hob; exact hob.elim
      | some Lk =>
        cases q2 : tyOf cx te with
        | none => simp only [entMap, ht, hk, hm, q1, q2] at hob; exact hob.elim
        | some Le =>
          cases q3 : (kkB Lk kk && vkB Le vk && mpKey kk k && !(roK c)) with
          | false => simp only [entMap, ht, hk, hm, q1, q2, q3] at hob; exact hob.elim
          | true =>
            cases q4 : Le.zero with
            | nil => simp only [entMap, ht, hk, hm, q1, q2, q3, q4] at hob; exact hob.elim
            | cons z r =>
              cases r with
              | cons z2 r2 => simp only [entMap, ht, hk, hm, q1, q2, q3, q4] at hob; exact hob.elim
              | nil =>
                cases q5 : (mpVal vk z && zB0 z) with
                | false => simp only [entMap, ht, hk, hm, q1, q2, q3, q4, q5] at hob; exact hob.elim
                | true => simp only [entMap, ht, hk, hm, q1, q2, q3, q4, q5]; exact List.mem_singleton.2 rfl
theorem stoMap_same {m m' : List (Nat × Chunk)} {x st v : SV} (hob : obH (stoMap m x st v).ob) (h : Same m m' (stoMap m x st v).rd) : stoMap m' x st v = stoMap m x st v := by
  unfold stoMap at hob h ⊢
  split at hob
  · rename_i c n
    simp only at h ⊢
    split at hob
    · rename_i t' kk vk l ck hm
      simp only [hm] at h ⊢
      cases hq : (mpVal vk v && !(roK c)) with
      | false => simp only [hq] at hob; exact hob.elim
      | true =>
        simp only [hq] at h ⊢
        rw [h c (List.mem_singleton.2 rfl), hm]
        simp only [hq]
    · exact hob.elim
  · exact hob.elim
theorem rngMap_same {cx : Cx} {m m' : List (Nat × Chunk)} {dst : Option Nat} {t : Nat} {x : SV} (hob : obH (rngMap cx m dst t x).ob) (h : Same m m' (rngMap cx m dst t x).rd) : rngMap cx m' dst t x = rngMap cx m dst t x := by
  unfold rngMap at hob h ⊢
  split at hob
  · rename_i c L d ht
    simp only [ht] at h ⊢
    split at hob
    · rename_i k e t' kk vk l ck hk hm hfree
      simp only [hk, hm, hfree] at h ⊢
      rw [h (cx.off + d) (by simp), h c (by simp), hm, hfree]
    · exact hob.elim
  · exact hob.elim
theorem itMap_same {m m' : List (Nat × Chunk)} {x : SV} (hob : obH (itMap m x).ob) (h : Same m m' (itMap m x).rd) : itMap m' x = itMap m x := by
  unfold itMap at hob h ⊢
  split at hob
  · rename_i c
    simp only at h ⊢
    split at hob
    · rename_i d since n sn last hm
      simp only [hm] at h ⊢
      split at hob
      · rename_i t' kk vk l ck hm2
        simp only [hm2] at h ⊢
        rw [h c (by simp), hm]
        dsimp only
        rw [h d (by simp), hm2]
      · exact hob.elim
    · exact hob.elim
  · exact hob.elim
theorem opE_same {cx : Cx} {m m' : List (Nat × Chunk)} {g : Operand → SV} {dst : Option Nat} {op : Op} (hob : obH (opE cx m g dst op).ob) (h : Same m m' (opE cx m g dst op).rd) : opE cx m' g dst op = opE cx m g dst op := by
  cases op with
  | alloc t =>
    simp only [opE] at hob h ⊢
    cases dst with
    | none => rfl
    | some d =>
      cases ht : tyOf cx t with
      | none => rfl
      | some L =>
        simp only [ht] at hob h ⊢
        cases hm : lkO m (cx.off + d) with
        | some _ => simp only [hm] at hob; exact hob.elim
        | none =>
          simp only [hm] at h ⊢
          rw [h (cx.off + d) (List.mem_singleton.2 rfl), hm]
  | box t x =>
    simp only [opE] at hob h ⊢
    cases dst with
    | none => rfl
    | some d =>
      simp only at hob h ⊢
      cases hm : lkO m (cx.off + d) <;> cases hc : cellsB m (g x) <;> simp only [hm, hc] at hob h ⊢ <;> try exact hob.elim
      rw [h (cx.off + d) (List.mem_cons_self ..), hm, cellsB_same _ (fun c hc => h c (List.mem_cons_of_mem _ hc)), hc]
  | build t ps =>
    simp only [opE] at hob h ⊢
    cases ht : tyOf cx t with
    | none => rfl
    | some L =>
      simp only [ht] at hob h ⊢
      cases hk : L.k <;> simp only [hk] at hob h ⊢
      · split at hob
        · rename_i cs hcs
          simp only [hcs] at h ⊢
          rw [fillS_same _ _ h, hcs]
        · exact hob.elim
      · rename_i e
        cases he : tyOf cx e with
        | none => rfl
        | some Le =>
          simp only [he] at hob h ⊢
          split at hob
          · rename_i cs hcs
            simp only [hcs] at h ⊢
            rw [fillS_same _ _ h, hcs]
          · exact hob.elim
  | buildSlice t n ps =>
    simp only [opE] at hob h ⊢
    cases dst with
    | none => rfl
    | some d =>
      cases ht : tyOf cx t with
      | none => rfl
      | some L =>
        simp only [ht] at hob h ⊢
        cases hk : L.k <;> simp only [hk] at hob h ⊢
        rename_i e
        cases he : tyOf cx e with
        | none => rfl
        | some Le =>
          simp only [he] at hob h ⊢
          cases hm : lkO m (cx.off + d) with
          | some _ => simp only [hm] at hob; exact hob.elim
          | none =>
            split at hob
            · rename_i q1 q2 q3 q4
              simp only [q2, q3, q4, hm] at h ⊢
              have h' : Same m m' (namesL (ps.toList.map fun x => g x.2)) := fun c hc => h c (List.mem_cons_of_mem _ hc)
              rw [h (cx.off + d) (List.mem_cons_self ..), hm, resolveL_same _ h', freezes_same _ h']
              simp only [q2, q3]
            · exact hob.elim
  | load t a =>
    simp only [opE] at hob h ⊢
    cases ht : tyOf cx t with
    | none => rfl
    | some L =>
      simp only [ht] at hob h ⊢
      cases hv : g a <;> simp only [hv] at hob h ⊢
      · rename_i c off
        cases hm : lkO m c with
        | none => simp only [hm] at hob; exact hob.elim
        | some ch =>
          cases ch <;> simp only [hm] at hob h ⊢ <;> try exact hob.elim
          split at hob
          · rename_i hb
            simp only [hb] at h
            rw [h c (List.mem_singleton.2 rfl), hm]
            simp only [hb]
          · exact hob.elim
      · rename_i c off
        cases hm : lkO m c with
        | none => simp only [hm] at hob; exact hob.elim
        | some ch =>
          cases ch <;> simp only [hm] at hob h ⊢ <;> try exact hob.elim
          rw [h c (List.mem_singleton.2 rfl), hm]
      · rename_i c sz i off ver
        cases hm : lkO m c with
        | none => simp only [hm] at hob; exact hob.elim
        | some ch =>
          cases ch <;> simp only [hm] at hob h ⊢ <;> try exact hob.elim
          split at hob
          · rename_i hb
            simp only [hb] at h
            rw [h c (List.mem_singleton.2 rfl), hm]
            simp only [hb]
          · exact hob.elim
  | store t a x =>
    simp only [opE] at hob h ⊢
    cases ht : tyOf cx t with
    | none => rfl
    | some L =>
      simp only [ht] at hob h ⊢
      cases q1 : Nat.beq (g x).cells.length L.ks.length <;> cases q2 : cellsB m (g x) <;> cases q3 : oneL m (g x).cells <;> simp only [q1, q2, q3] at hob h ⊢ <;> try exact hob.elim
      cases hv : g a <;> simp only [hv] at hob h ⊢ <;> try exact hob.elim
      · rename_i c off
        cases hm : lkO m c with
        | none => simp only [hm] at hob; exact hob.elim
        | some ch =>
          cases ch <;> simp only [hm] at hob h ⊢ <;> try exact hob.elim
          split at hob
          · rename_i hb
            simp only [hb] at h
            have h' : Same m m' (names (g x)) := fun c hc => h c (List.mem_cons_of_mem _ hc)
            rw [h c (List.mem_cons_self ..), hm, cellsB_same _ h', q2, oneL_cells_same _ h', q3]
            simp only [hb]
          · exact hob.elim
      · rename_i c off
        cases hm : lkO m c with
        | none => simp only [hm] at hob; exact hob.elim
        | some ch =>
          cases ch <;> simp only [hm] at hob h ⊢ <;> try exact hob.elim
          cases hro : roK c with
          | true => simp only [hro] at hob; exact hob.elim
          | false =>
            simp only [hro] at h
            have h' : Same m m' (names (g x)) := fun c hc => h c (List.mem_cons_of_mem _ hc)
            rw [h c (List.mem_cons_self ..), hm, cellsB_same _ h', q2, oneL_cells_same _ h', q3]
      · rename_i c sz i off ver
        cases hm : lkO m c with
        | none => simp only [hm] at hob; exact hob.elim
        | some ch =>
          cases ch <;> simp only [hm] at hob h ⊢ <;> try exact hob.elim
          split at hob
          · rename_i hb
            simp only [hb] at h
            have h' : Same m m' (names (g x)) := fun c hc => h c (List.mem_cons_of_mem _ hc)
            rw [h c (List.mem_cons_self ..), hm, cellsB_same _ h', q2, oneL_cells_same _ h', q3]
            simp only [resolveL_cells_same _ h', freezes_same _ h', hb]
          · exact hob.elim
  | convert t d x =>
    simp only [opE] at hob h ⊢
    unfold convOf at hob h ⊢
    cases hs : tyOf cx t with
    | none => rfl
    | some S =>
      cases ht : tyOf cx d with
      | none => rfl
      | some L =>
        simp only [hs, ht] at hob h ⊢
        cases hk : L.k <;> simp only [hk] at hob h ⊢
        cases hsk : S.k <;> simp only [hsk] at hob h ⊢
        rename_i e
        cases he : tyOf cx e with
        | none => rfl
        | some Le =>
          cases hr : rowOf m (g x) with
          | none => simp only [he, hr] at hob; exact hob.elim
          | some r =>
            obtain ⟨ks, l, rd⟩ := r
            simp only [he, hr] at hob h ⊢
            have key : Same m m' (names (g x)) := by
              rw [← rowOf_rd hr]
              cases hek : Le.k <;> simp only [hek] at hob h <;> try exact hob.elim
              split at hob
              · rename_i q1 q2
                simp only [q1, q2] at h; exact h
              · exact hob.elim
            rw [rowOf_same _ key, hr]
  | slice t x lo hi mx =>
    cases mx with
    | some _ =>
      cases lo with
      | some _ => rfl
      | none =>
        cases hi with
        | none => rfl
        | some hi =>
          rename_i mx
          simp only [opE] at hob h ⊢
          cases ht : tyOf cx t with
          | none => rfl
          | some L =>
            simp only [ht] at hob h ⊢
            cases hk : L.k <;> simp only [hk] at hob h ⊢
            rename_i e
            cases hte : tyOf cx e with
            | none => rfl
            | some Le =>
              simp only [hte] at hob h ⊢
              by_cases hzz : (isZ hi && isZ mx) = true ∧ ∃ ks l, g x = .sl ks l
              · obtain ⟨hz, ks, l, hv⟩ := hzz
                rw [hz, hv]; rfl
              have hno : ∀ ks l, (isZ hi && isZ mx) = true → g x ≠ .sl ks l := fun ks l h1 h2 => hzz ⟨h1, ks, l, h2⟩
              rw [sl3Z_no hno] at hob h ⊢
              rw [sl3Z_no hno]
              cases hv2 : g hi <;> simp only [hv2] at hob h ⊢
              cases hv3 : g mx <;> simp only [hv3] at hob h ⊢
              exact sl3_same hob h
    | none =>
      simp only [opE] at hob h ⊢
      cases ht : tyOf cx t with
      | none => rfl
      | some L =>
        simp only [ht] at hob h ⊢
        cases hk : L.k <;> cases hv : g x <;> simp only [hk, hv] at hob h ⊢
        rename_i e c ver
        cases hte : tyOf cx e with
        | none => rfl
        | some Le =>
          simp only [hte] at hob h ⊢
          cases hm : lkO m c with
          | none => simp only [hm] at hob; exact hob.elim
          | some ch =>
            simp only [hm] at hob h
            cases ch <;> simp only at hob h <;> try exact hob.elim
            · rename_i v e' ks l
              cases hq : (Nat.beq v ver && Nat.beq Le.ks.length ks.length) with
              | false => simp only [hq] at hob; exact hob.elim
              | true =>
                simp only [hq] at hob h
                cases lo with
                | some u =>
                  cases hi with
                  | some z =>
                    simp only [Option.map_some] at hob
                    cases hu : g u <;> simp only [hu] at hob <;> exact hob.elim
                  | none =>
                    simp only [Option.map_some, Option.map_none] at hob h
                    cases hu : g u <;> simp only [hu] at hob h <;> try exact hob.elim
                    have hc : lkO m' c = lkO m c := h c (List.mem_singleton.2 rfl)
                    rw [hc, hm]
                | none =>
                  cases hi with
                  | none => exact hob.elim
                  | some z =>
                    simp only [Option.map_some, Option.map_none] at hob h
                    cases hz : g z <;> simp only [hz] at hob h <;> try exact hob.elim
                    have hc : lkO m' c = lkO m c := by
                      split at h
                      · exact h c (List.mem_singleton.2 rfl)
                      · exact h c (List.mem_singleton.2 rfl)
                    rw [hc, hm]
            · rename_i v ks l
              cases hq : Nat.beq v ver with
              | false => simp only [hq] at hob; exact hob.elim
              | true =>
                simp only [hq] at hob h
                have hc : lkO m' c = lkO m c := h c (by rw [slPart_rd hob]; exact List.mem_singleton.2 rfl)
                rw [hc, hm]
  | call c =>
    simp only [opE] at hob h ⊢
    cases hc : c.callee with
    | invoke r m => rfl
    | value f =>
      simp only [hc] at hob h ⊢
      cases hv : g f <;> simp only [hv] at hob h ⊢
      rename_i fn caps
      unfold callOf at hob h ⊢
      cases hcon : lkO cx.fn fn with
      | none => rfl
      | some con =>
        simp only [hcon] at hob h ⊢
        cases hcl : closedAL (lendL m (c.args.toList.map g ++ caps)) with
        | false => simp only [hcl] at hob; exact hob.elim
        | true =>
          simp only [hcl] at hob h ⊢
          cases how : ownAt (con.res (lendL m (c.args.toList.map g ++ caps))) with
          | none =>
            simp only [how] at hob h ⊢
            cases hpl : plainR (con.res (lendL m (c.args.toList.map g ++ caps))) <;> simp only [hpl] at h ⊢
            · obtain ⟨l1, l2⟩ := lendL_same _ h.left h.right
              rw [l1]; simp only [hcl, how, hpl]; rw [l2, freezes_same _ h.right]
            · obtain ⟨l1, l2⟩ := lendL_same _ h.left h.right
              rw [l1]; simp only [hcl, how, hpl]; rw [l2]
          | some p =>
            obtain ⟨j, e, ks, l⟩ := p
            simp only [how] at hob h ⊢
            cases dst with
            | none => exact hob.elim
            | some d =>
              simp only at hob h ⊢
              cases hmk : lkO m (ownKey cx d j) with
              | some _ => simp only [hmk] at hob; exact hob.elim
              | none =>
                simp only [hmk] at hob h ⊢
                cases hfp : (flatK ks && plainR (ownPut j .any (con.res (lendL m (c.args.toList.map g ++ caps))))) <;> simp only [hfp] at h ⊢
                · have hk : lkO m' (ownKey cx d j) = none := by rw [h _ (List.mem_cons_self ..), hmk]
                  have h : Same m m' (lboxes (c.args.toList.map g ++ caps) ++ lnamesL m (c.args.toList.map g ++ caps)) := fun c hc => h c (List.mem_cons_of_mem _ hc)
                  obtain ⟨l1, l2⟩ := lendL_same _ h.left h.right
                  rw [l1]; simp only [hcl, how, hk, hfp]; rw [l2, freezes_same _ h.right]
                · have hk : lkO m' (ownKey cx d j) = none := by rw [h _ (List.mem_cons_self ..), hmk]
                  have h : Same m m' (lboxes (c.args.toList.map g ++ caps) ++ lnamesL m (c.args.toList.map g ++ caps)) := fun c hc => h c (List.mem_cons_of_mem _ hc)
                  obtain ⟨l1, l2⟩ := lendL_same _ h.left h.right
                  rw [l1]; simp only [hcl, how, hk, hfp]; rw [l2]
    | builtin b =>
      simp only [hc] at hob h ⊢
      cases b <;> simp only [builtinOf] at hob h ⊢
      · -- append
        generalize c.args.toList.map g = args at hob h ⊢
        generalize c.argTypes.toList = ts at hob h ⊢
        unfold appOf at hob h ⊢
        split at hob <;> try exact hob.elim
        rename_i t t' v w2
        simp only at h ⊢
        split at hob <;> try exact hob.elim
        rename_i ks' l' rd' L hr ht hbt
        simp only [hr, ht, hbt] at h
        have hrd := rowOf_rd hr
        cases hk : L.k <;> simp only [hk] at hob h <;> try exact hob.elim
        rename_i et
        cases hte : tyOf cx et with
        | none => simp only [hte] at hob; exact hob.elim
        | some Le =>
          simp only [hte] at hob h
          split at hob <;> try exact hob.elim
          rename_i hq
          simp only [hq] at h
          split at hob <;> try exact hob.elim
          · simp only at h
            cases dst with
            | none => exact hob.elim
            | some d =>
              simp only at hob h
              cases hm : lkO m (cx.off + d) with
              | some _ => simp only [hm] at hob; exact hob.elim
              | none =>
                simp only [hm] at h
                have h2 : Same m m' (names w2) := by rw [← hrd]; exact fun c hc => h c (List.mem_cons_of_mem _ hc)
                rw [rowOf_same _ h2]
                simp only [hr, ht, hbt, hk, hte, hq, h (cx.off + d) (List.mem_cons_self ..), hm]
          · rename_i c0 ver
            simp only at h
            cases hm : lkO m c0 with
            | none => simp only [hm] at hob; exact hob.elim
            | some ch =>
              cases ch <;> simp only [hm] at hob h <;> try exact hob.elim
              split at hob <;> try exact hob.elim
              rename_i hq2
              simp only [hq2] at h
              have h2 : Same m m' (names w2) := by rw [← hrd]; exact fun c hc => h c (List.mem_cons_of_mem _ hc)
              rw [rowOf_same _ h2]
              simp only [hr, ht, hbt, hk, hte, hq, h c0 (List.mem_cons_self ..), hm, hq2]
          · rename_i ks0 l0
            simp only at h
            cases dst with
            | none => exact hob.elim
            | some d =>
              cases hq3 : cksEq ks0 Le.ks with
              | false => simp only [hq3] at hob; exact hob.elim
              | true =>
                simp only [hq3] at hob h
                cases hn : nextV (lkO m (cx.off + d)) with
                | none => simp only [hn] at hob; exact hob.elim
                | some ver =>
                  simp only [hn] at h
                  have h2 : Same m m' (names w2) := by rw [← hrd]; exact fun c hc => h c (List.mem_cons_of_mem _ hc)
                  rw [rowOf_same _ h2]
                  simp only [hr, ht, hbt, hk, hte, hq, hq3, h (cx.off + d) (List.mem_cons_self ..), hn]
      · -- clear
        generalize c.args.toList.map g = args at hob h ⊢
        generalize c.argTypes.toList = ts at hob h ⊢
        unfold clrOf at hob h ⊢
        split at hob <;> try exact hob.elim
        simp only at h ⊢
        split at hob <;> try exact hob.elim
        rename_i c0 sz k ver L ht
        simp only [ht] at h ⊢
        cases hk : L.k <;> simp only [hk] at hob h ⊢ <;> try exact hob.elim
        split at hob <;> try exact hob.elim
        rename_i Le v' e' ks l hte hm
        simp only [hte, hm] at h ⊢
        split at hob <;> try exact hob.elim
        rename_i hq
        simp only [hq] at h
        rw [h c0 (List.mem_singleton.2 rfl), hm]
        simp only [hq]
      · -- copy
        generalize c.args.toList.map g = args at hob h ⊢
        generalize c.argTypes.toList = ts at hob h ⊢
        unfold copyOf at hob h ⊢
        split at hob <;> try exact hob.elim
        rename_i t t' v w2
        simp only at h ⊢
        split at hob <;> try exact hob.elim
        rename_i ks' l' rd' L hr ht
        simp only [hr, ht] at h
        have hrd := rowOf_rd hr
        cases hk : L.k <;> simp only [hk] at hob h <;> try exact hob.elim
        rename_i et
        cases hte : tyOf cx et with
        | none => simp only [hte] at hob; exact hob.elim
        | some Le =>
          simp only [hte] at hob h
          cases v <;> simp only at hob h <;> try exact hob.elim
          rename_i c0 ver
          cases hm : lkO m c0 with
          | none => simp only [hm] at hob; exact hob.elim
          | some ch =>
            cases ch <;> simp only [hm] at hob h <;> try exact hob.elim
            split at hob <;> try exact hob.elim
            rename_i hq2
            simp only [hq2] at h
            have h2 : Same m m' (names w2) := by rw [← hrd]; exact fun c hc => h c (List.mem_cons_of_mem _ hc)
            rw [rowOf_same _ h2]
            simp only [hr, ht, hk, hte, h c0 (List.mem_cons_self ..), hm, hq2]
      · -- delete
        generalize c.args.toList.map g = args at hob h ⊢
        generalize c.argTypes.toList = ts at hob h ⊢
        exact delMap_same hob h
      · -- len
        generalize c.args.toList.map g = args at hob h ⊢
        generalize c.argTypes.toList = ts at hob h ⊢
        unfold lenOf at hob h ⊢
        split at hob <;> try exact hob.elim
        rename_i t v
        simp only at h ⊢
        cases ht : tyOf cx t with
        | none => rfl
        | some L =>
          simp only [ht] at hob h ⊢
          cases hk : L.k <;> simp only [hk] at hob h ⊢
          cases hr : rowOf m v with
          | none => simp only [hr] at hob; exact hob.elim
          | some r =>
            obtain ⟨ks, l, rd⟩ := r
            simp only [hr] at hob h ⊢
            rw [rowOf_same v (by rw [← rowOf_rd hr]; exact h), hr]
  | fieldAddr t x f =>
    simp only [opE] at hob h ⊢
    cases hf : fieldOff cx t f with
    | none => rfl
    | some o =>
      cases hv : g x <;> simp only [hf, hv] at hob h ⊢
      rename_i c sz i off ver
      cases hm : lkO m c with
      | none => simp only [hm] at hob; exact hob.elim
      | some ch =>
        cases ch <;> simp only [hm] at hob h ⊢ <;> try exact hob.elim
        split at hob
        · rename_i hb
          simp only [hb] at h
          rw [h c (List.mem_singleton.2 rfl), hm]
          simp only [hb]
        · exact hob.elim
  | makeFunc f first caps =>
    simp only [opE] at hob h ⊢
    cases f <;> try rfl
    cases h1 : first.toList <;> simp only [h1] at hob h ⊢
    cases h2 : oneL m (caps.toList.map g) with
    | false => simp only [h2] at hob; exact hob.elim
    | true =>
      simp only [h2] at h
      rw [oneL_same _ h, h2]
  | makeSlice t len cap =>
    simp only [opE] at hob h ⊢
    cases dst with
    | none => rfl
    | some d =>
      cases ht : tyOf cx t <;> cases hl : g len <;> cases hc : g cap <;> simp only [ht, hl, hc] at hob h ⊢
      rename_i L _ _ _ _
      cases hk : L.k <;> simp only [hk] at hob h ⊢
      rename_i e
      cases hte : tyOf cx e with
      | none => rfl
      | some Le =>
        simp only [hte] at hob h ⊢
        cases hm : lkO m (cx.off + d) with
        | some _ => simp only [hm] at hob; exact hob.elim
        | none =>
          cases hq : (Nat.blt 0 Le.ks.length && kBs Le.ks Le.zero) with
          | false => simp only [hm, hq] at hob; exact hob.elim
          | true =>
            cases hz : isZ len <;> simp only [hm, hq, hz] at h ⊢ <;> rw [h (cx.off + d) (List.mem_singleton.2 rfl), hm]
  | indexAddr t x y =>
    simp only [opE] at hob h ⊢
    cases hv : g x <;> cases hz : g y <;> simp only [hv, hz] at hob h ⊢
    rename_i c ver k n
    cases ht : tyOf cx t with
    | none => rfl
    | some L =>
      simp only [ht] at hob h ⊢
      cases hk : L.k <;> simp only [hk] at hob h ⊢
      rename_i e
      cases hte : tyOf cx e with
      | none => rfl
      | some Le =>
        simp only [hte] at hob h ⊢
        cases hm : lkO m c with
        | none => simp only [hm] at hob; exact hob.elim
        | some ch =>
          cases ch <;> simp only [hm] at hob h ⊢ <;> try exact hob.elim
          · split at hob
            · rename_i hb
              simp only [hb] at h
              rw [h c (List.mem_singleton.2 rfl), hm]
              simp only [hb]
            · exact hob.elim
          · split at hob
            · rename_i hb
              simp only [hb] at h
              rw [h c (List.mem_singleton.2 rfl), hm]
              simp only [hb]
            · exact hob.elim
  | binOp op t y z t2 =>
    cases ht : tyOf cx t with
    | none => simp only [opE, ht]
    | some L =>
      cases hk : L.k <;> first | (simp only [opE, ht, hk]; done) | skip
      simp only [opE, ht, hk] at hob h ⊢
      split
      · rfl
      · rfl
      · rfl
      · rfl
      · rename_i x1 x2 n1 n2 n3 n4
        have key : obH (nilCmp m op (g y) (g z)).ob → Same m m' (nilCmp m op (g y) (g z)).rd → nilCmp m' op (g y) (g z) = nilCmp m op (g y) (g z) := nilCmp_same
        split at hob
        · rename_i e1 e2; exact (n1 _ _ _ _ e1 e2).elim
        · rename_i e1 e2; exact (n2 _ _ e1 e2).elim
        · rename_i e1 e2; exact (n3 _ _ e1 e2).elim
        · rename_i e1 e2; exact (n4 _ _ _ _ e1 e2).elim
        · split at h
          · rename_i e1 e2; exact (n1 _ _ _ _ e1 e2).elim
          · rename_i e1 e2; exact (n2 _ _ e1 e2).elim
          · rename_i e1 e2; exact (n3 _ _ e1 e2).elim
          · rename_i e1 e2; exact (n4 _ _ _ _ e1 e2).elim
          · exact key hob h
  | makeMap t r =>
    cases r with
    | none => exact mkMap_same hob h
    | some r => rfl
  | lookup t y z ok => exact lookMap_same hob h
  | mapUpdate t y z u => exact putMap_same hob h
  | insert t y z u => exact putMap_same hob h
  | mapEntry t y z => exact entMap_same hob h
  | entryStore t y z u => exact stoMap_same hob h
  | range t y => exact rngMap_same hob h
  | entry y => exact itMap_same hob h
  | _ => rfl

/-- Off other operands. -/
theorem opE_congr {cx : Cx} {m : List (Nat × Chunk)} {g g' : Operand → SV} {dst : Option Nat} {op : Op} (h : ∀ x, x ∈ op.operands → g' x = g x) : opE cx m g' dst op = opE cx m g dst op := by
  cases op with
  | build t ps =>
    have hp : ∀ p, p ∈ ps.toList → g' p.2 = g p.2 := fun p hp => h p.2 (by simp only [Op.operands]; simp; exact ⟨p.1, by simpa using hp⟩)
    have hm : (ps.toList.map fun x => g' x.2) = (ps.toList.map fun x => g x.2) := List.map_congr_left (fun p hp' => hp p hp')
    simp only [opE, fillS_congr _ _ hp, hm]
  | buildSlice t n ps =>
    have hp : ∀ p, p ∈ ps.toList → g' p.2 = g p.2 := fun p hp => h p.2 (by simp only [Op.operands]; simp; exact ⟨p.1, by simpa using hp⟩)
    have hm : (ps.toList.map fun x => g' x.2) = (ps.toList.map fun x => g x.2) := List.map_congr_left (fun p hp' => hp p hp')
    simp only [opE, hm]
  | slice t x lo hi mx =>
    cases mx with
    | some mv =>
      cases lo with
      | some _ => rfl
      | none =>
        cases hi with
        | none => rfl
        | some hv => simp only [opE, h x (by simp [Op.operands]), h hv (by simp [Op.operands]), h mv (by simp [Op.operands])]
    | none =>
      have h1 : g' x = g x := h x (by simp [Op.operands])
      have h2 : lo.map g' = lo.map g := by
        cases lo with
        | none => rfl
        | some u => simp only [Option.map_some]; rw [h u (by simp [Op.operands])]
      have h3 : hi.map g' = hi.map g := by
        cases hi with
        | none => rfl
        | some u => simp only [Option.map_some]; rw [h u (by simp [Op.operands])]
      simp only [opE, h1, h2, h3]
  | call c =>
    have hm : c.args.toList.map g' = c.args.toList.map g := List.map_congr_left (fun x hx => h x (by simp only [Op.operands, Call.operands]; simp; exact .inr (by simpa using hx)))
    cases hc : c.callee with
    | invoke r m => simp only [opE, hc]
    | builtin b => simp only [opE, hc, hm]
    | value f =>
      have h1 : g' f = g f := h f (by simp [Op.operands, Call.operands, hc])
      simp only [opE, hc, hm, h1]
  | move x => simp only [opE, h x (by simp [Op.operands])]
  | assign x => simp only [opE, h x (by simp [Op.operands])]
  | pick c a b => simp only [opE, h c (by simp [Op.operands]), h a (by simp [Op.operands]), h b (by simp [Op.operands])]
  | box t x => simp only [opE, h x (by simp [Op.operands])]
  | load t x => simp only [opE, h x (by simp [Op.operands])]
  | store t x y => simp only [opE, h x (by simp [Op.operands]), h y (by simp [Op.operands])]
  | fieldAddr t x f => simp only [opE, h x (by simp [Op.operands])]
  | field t x f => simp only [opE, h x (by simp [Op.operands])]
  | indexAddr t x y => simp only [opE, h x (by simp [Op.operands]), h y (by simp [Op.operands])]
  | index t x y => simp only [opE, h x (by simp [Op.operands]), h y (by simp [Op.operands])]
  | binOp op t x y t2 => simp only [opE, h x (by simp [Op.operands]), h y (by simp [Op.operands])]
  | unOp op t x => simp only [opE, h x (by simp [Op.operands])]
  | convert t d x => simp only [opE, h x (by simp [Op.operands])]
  | extract x i => simp only [opE, h x (by simp [Op.operands])]
  | nilCheck x => simp only [opE, h x (by simp [Op.operands])]
  | makeFunc f a c =>
    have hm : c.toList.map g' = c.toList.map g := List.map_congr_left (fun x hx => h x (by simp only [Op.operands]; simp; exact .inr (by simpa using hx)))
    simp only [opE, hm]
  | makeSlice t x y => simp only [opE, h x (by simp [Op.operands]), h y (by simp [Op.operands])]
  | makeMap t r => cases r <;> rfl
  | lookup t x y ok => simp only [opE, h x (by simp [Op.operands]), h y (by simp [Op.operands])]
  | mapEntry t x y => simp only [opE, h x (by simp [Op.operands]), h y (by simp [Op.operands])]
  | entryStore t x y z => simp only [opE, h x (by simp [Op.operands]), h y (by simp [Op.operands]), h z (by simp [Op.operands])]
  | range t x => simp only [opE, h x (by simp [Op.operands])]
  | entry x => simp only [opE, h x (by simp [Op.operands])]
  | mapUpdate t x y z => simp only [opE, h x (by simp [Op.operands]), h y (by simp [Op.operands]), h z (by simp [Op.operands])]
  | insert t x y z => simp only [opE, h x (by simp [Op.operands]), h y (by simp [Op.operands]), h z (by simp [Op.operands])]
  | _ => rfl
end Go.Rx

/- The framework, part 18: regions in whatever order the tape tells. -/
namespace Go.Rx
set_option linter.unusedSectionVars false
open Go.RowKit

section
variable {cx : Cx} {P : Program} [Laid P] {B : Nat} {M I0 : Nat → Prop} {G : Nat → Value} {w0 : World} {E : Env} {s : St} {a : Act} {w : World} {o : Oper} {K : Act → World → Prop} {Q : Exit → Act → World → Prop}

theorem lkO_endF : ∀ (es : List Eff) (i : Nat) (fs : List (Nat × Eff)) (k : Nat), lkO (endF i es fs) k = if i ≤ k ∧ k < i + es.length then es[k - i]? else lkO fs k
  | [], i, fs, k => by simp only [endF, List.length_nil]; rw [if_neg (by omega)]
  | e :: es, i, fs, k => by
    rw [endF, lkO_endF es (i + 1), lkO_cons]
    by_cases h1 : i = k
    · subst h1
      rw [if_neg (by omega), if_pos rfl, if_pos (by simp)]
      simp
    · by_cases h2 : i + 1 ≤ k ∧ k < i + 1 + es.length
      · rw [if_pos h2, if_pos (by simp; omega)]
        have : k - i = (k - (i + 1)) + 1 := by omega
        rw [this, List.getElem?_cons_succ]
      · rw [if_neg h2, if_neg h1, if_neg (by simp; omega)]

theorem path_length (all : List Oper) : ∀ (l : List Oper) (s : St) (es : List Eff), Path cx all l s es → es.length = l.length
  | [], s, es, h => by simp only [Path] at h; simp [h]
  | o :: r, s, es, h => by
    obtain ⟨e, es', rfl, _, _, h'⟩ := h
    simp [path_length all r _ es' h']

/-- The operations of a set, carried out in the order of the text. -/
def selS (D : Nat → Bool) : List Oper → List Eff → Nat → St → St
  | o :: r, e :: es, i, s => selS D r es (i + 1) (match D i with
    | true => upd s o.dst e.v e.ch
    | false => s)
  | _, _, _, s => s

theorem sel_tm {D D' : Nat → Bool} {t : Nat} : ∀ (l : List Oper) (es : List Eff) (i : Nat) (s s' : St), lk .any s.tm t = lk .any s'.tm t → (∀ j o, l[j]? = some o → o.dst = some t → D (i + j) = D' (i + j)) →
    lk .any (selS D l es i s).tm t = lk .any (selS D' l es i s').tm t
  | [], es, i, s, s', h, _ => by cases es <;> exact h
  | _ :: _, [], i, s, s', h, _ => h
  | o :: r, e :: es, i, s, s', h, hd => by
    simp only [selS]
    refine sel_tm r es (i + 1) _ _ ?_ (fun j o' hj ho => by have := hd (j + 1) o' (by simpa using hj) ho; rwa [show i + 1 + j = i + (j + 1) by omega])
    by_cases ht : o.dst = some t
    · have := hd 0 o rfl ht
      rw [Nat.add_zero] at this
      rw [this]
      cases D' i with
      | true => simp only [upd, ht]; rw [lk_cons, lk_cons, if_pos rfl, if_pos rfl]
      | false => exact h
    · have key : ∀ (s : St), lk .any (upd s o.dst e.v e.ch).tm t = lk .any s.tm t := fun s => by
        simp only [upd]
        cases hq : o.dst with
        | none => rfl
        | some d => rw [lk_cons, if_neg (fun e => ht (by rw [hq, e]))]
      cases D i <;> cases D' i <;> simp only [key, h]

theorem sel_mem {D D' : Nat → Bool} {c : Nat} : ∀ (l : List Oper) (es : List Eff) (i : Nat) (s s' : St), lkO s.mem c = lkO s'.mem c → (∀ j e, es[j]? = some e → lkO e.ch c ≠ none → D (i + j) = D' (i + j)) →
    lkO (selS D l es i s).mem c = lkO (selS D' l es i s').mem c
  | [], es, i, s, s', h, _ => by cases es <;> exact h
  | _ :: _, [], i, s, s', h, _ => h
  | o :: r, e :: es, i, s, s', h, hd => by
    simp only [selS]
    refine sel_mem r es (i + 1) _ _ ?_ (fun j e' hj ho => by have := hd (j + 1) e' (by simpa using hj) ho; rwa [show i + 1 + j = i + (j + 1) by omega])
    by_cases ht : lkO e.ch c = none
    · have key : ∀ (s : St), lkO (upd s o.dst e.v e.ch).mem c = lkO s.mem c := fun s => by
        simp only [upd]; rw [lkO_append, ht]
      cases D i <;> cases D' i <;> simp only [key, h]
    · have := hd 0 e rfl ht
      rw [Nat.add_zero] at this
      rw [this]
      cases D' i with
      | true => simp only [upd]; rw [lkO_append, lkO_append, h]
      | false => exact h

/-- What is written last stands. -/
theorem sel_tm_last {D : Nat → Bool} {t : Nat} : ∀ (l : List Oper) (es : List Eff) (i : Nat) (s : St) (k : Nat) (o : Oper) (e : Eff), l[k]? = some o → es[k]? = some e → o.dst = some t → D (i + k) = true → (∀ j o', k < j → l[j]? = some o' → o'.dst = some t → D (i + j) = false) →
    lk .any (selS D l es i s).tm t = e.v
  | [], _, _, _, k, o, e, h, _, _, _, _ => by simp at h
  | _ :: _, [], _, _, k, o, e, _, h, _, _, _ => by simp at h
  | o0 :: r, e0 :: es, i, s, 0, o, e, h1, h2, h3, h4, h5 => by
    simp only [List.getElem?_cons_zero, Option.some.injEq] at h1 h2
    subst h1 h2
    simp only [selS]
    rw [Nat.add_zero] at h4
    rw [h4]
    rw [sel_tm (D' := fun _ => false) r es (i + 1) _ (upd s o0.dst e0.v e0.ch) rfl (fun j o' hj ho => by have := h5 (j + 1) o' (by omega) (by simpa using hj) ho; rwa [show i + 1 + j = i + (j + 1) by omega])]
    have key : ∀ (l : List Oper) (es : List Eff) (i : Nat) (s : St), selS (fun _ => false) l es i s = s := by
      intro l
      induction l with
      | nil => intro es i s; cases es <;> rfl
      | cons o r ih => intro es i s; cases es with
        | nil => rfl
        | cons e es => simp only [selS]; exact ih es (i + 1) s
    rw [key]
    simp only [upd, h3]
    rw [lk_cons, if_pos rfl]
  | o0 :: r, e0 :: es, i, s, k + 1, o, e, h1, h2, h3, h4, h5 => by
    simp only [selS]
    exact sel_tm_last r es (i + 1) _ k o e (by simpa using h1) (by simpa using h2) h3 (by rwa [show i + 1 + k = i + (k + 1) by omega]) (fun j o' hj hq ho => by
      have := h5 (j + 1) o' (by omega) (by simpa using hq) ho; rwa [show i + 1 + j = i + (j + 1) by omega])

theorem sel_mem_last {D : Nat → Bool} {c : Nat} {v : Chunk} : ∀ (l : List Oper) (es : List Eff) (i : Nat) (s : St) (k : Nat) (e : Eff), k < l.length → es[k]? = some e → lkO e.ch c = some v → D (i + k) = true → (∀ j e', k < j → es[j]? = some e' → lkO e'.ch c ≠ none → D (i + j) = false) →
    lkO (selS D l es i s).mem c = some v
  | [], _, _, _, k, e, h, _, _, _, _ => by simp at h
  | _ :: _, [], _, _, k, e, _, h, _, _, _ => by simp at h
  | o0 :: r, e0 :: es, i, s, 0, e, _, h2, h3, h4, h5 => by
    simp only [List.getElem?_cons_zero, Option.some.injEq] at h2
    subst h2
    simp only [selS]
    rw [Nat.add_zero] at h4
    rw [h4]
    rw [sel_mem (D' := fun _ => false) r es (i + 1) _ (upd s o0.dst e0.v e0.ch) rfl (fun j e' hj ho => by have := h5 (j + 1) e' (by omega) (by simpa using hj) ho; rwa [show i + 1 + j = i + (j + 1) by omega])]
    have key : ∀ (l : List Oper) (es : List Eff) (i : Nat) (s : St), selS (fun _ => false) l es i s = s := by
      intro l
      induction l with
      | nil => intro es i s; cases es <;> rfl
      | cons o r ih => intro es i s; cases es with
        | nil => rfl
        | cons e es => simp only [selS]; exact ih es (i + 1) s
    rw [key]
    simp only [upd]
    rw [lkO_append, h3]
  | o0 :: r, e0 :: es, i, s, k + 1, e, h1, h2, h3, h4, h5 => by
    simp only [selS]
    exact sel_mem_last r es (i + 1) _ k e (by simpa using h1) (by simpa using h2) h3 (by rwa [show i + 1 + k = i + (k + 1) by omega]) (fun j e' hj hq ho => by
      have := h5 (j + 1) e' (by omega) (by simpa using hq) ho; rwa [show i + 1 + j = i + (j + 1) by omega])

/-- Every operation of a way, at its state. -/
theorem path_get (all : List Oper) : ∀ (l : List Oper) (s : St) (es : List Eff) (i : Nat), Path cx all l s es → ∀ k o e, l[k]? = some o → es[k]? = some e → dOk cx o.dst = true ∧ Step cx all (selS (fun j => decide (j < i + k)) l es i s) o e
  | [], s, es, i, _, k, o, e, h, _ => by simp at h
  | o0 :: r, s, es, i, h, 0, o, e, h1, h2 => by
    obtain ⟨e0, es', rfl, hd, hs, _⟩ := h
    simp only [List.getElem?_cons_zero, Option.some.injEq] at h1 h2
    subst h1 h2
    refine ⟨hd, ?_⟩
    have key : ∀ (l : List Oper) (es : List Eff) (i n : Nat) (s : St), n ≤ i → selS (fun j => decide (j < n)) l es i s = s := by
      intro l
      induction l with
      | nil => intro es i n s _; cases es <;> rfl
      | cons o r ih => intro es i n s hn; cases es with
        | nil => rfl
        | cons e es =>
          simp only [selS]
          rw [decide_eq_false (by omega)]
          exact ih es (i + 1) n s (by omega)
    rw [show i + 0 = i from rfl, key _ _ _ i _ (Nat.le_refl _)]
    exact hs
  | o0 :: r, s, es, i, h, k + 1, o, e, h1, h2 => by
    obtain ⟨e0, es', rfl, hd, hs, h'⟩ := h
    have := path_get all r _ es' (i + 1) h' k o e (by simpa using h1) (by simpa using h2)
    refine ⟨this.1, ?_⟩
    simp only [selS]
    rw [decide_eq_true (show i < i + (k + 1) by omega)]
    rw [show i + (k + 1) = i + 1 + k by omega]
    exact this.2

theorem sel_all : ∀ (l : List Oper) (es : List Eff) (i : Nat) (s : St), selS (fun _ => true) l es i s = endS l es s
  | [], es, i, s => by cases es <;> rfl
  | _ :: _, [], i, s => rfl
  | o :: r, e :: es, i, s => by simp only [selS, endS]; exact sel_all r es (i + 1) _

/-! ### Which operations wait for which -/
def Closed (ops : List Oper) (D : Nat → Bool) : Prop := ∀ i o, ops[i]? = some o → D i = true → ∀ e, e ∈ o.after.toList → Region.binds .any e = true → D e.on = true

def Ready (o : Oper) (D : Nat → Bool) : Prop := ∀ e, e ∈ o.after.toList → Region.binds .any e = true → D e.on = true

theorem befFold_bit (acc : List Nat) : ∀ (l : List Edge) (s i : Nat), (l.foldl (befStep acc) s).testBit i = true → s.testBit i = true ∨ ∃ e, e ∈ l ∧ Region.binds .any e = true ∧ (e.on = i ∨ (acc.getD e.on 0).testBit i = true)
  | [], s, i, h => .inl h
  | e :: l, s, i, h => by
    simp only [List.foldl_cons] at h
    rcases befFold_bit acc l _ i h with h1 | ⟨e', h1, h2⟩
    · unfold befStep at h1
      cases hb : Region.binds .any e with
      | false => rw [hb] at h1; exact .inl h1
      | true =>
        rw [hb] at h1
        simp only [Nat.testBit_or, Nat.testBit_two_pow, Bool.or_eq_true, decide_eq_true_eq] at h1
        rcases h1 with (h1 | h1) | h1
        · exact .inl h1
        · exact .inr ⟨e, List.mem_cons_self .., hb, .inl h1⟩
        · exact .inr ⟨e, List.mem_cons_self .., hb, .inr h1⟩
    · exact .inr ⟨e', List.mem_cons_of_mem _ h1, h2⟩

theorem befN_bit {ops : List Oper} {D : Nat → Bool} (hD : Closed ops D) (hedge : ∀ i o, ops[i]? = some o → edgesOk o i = true) : ∀ (l : List Oper) (k : Nat) (acc : List Nat), (∀ j, l[j]? = ops[k + j]?) → acc.length = k →
    (∀ j o, j < k → ops[j]? = some o → Ready o D → ∀ i, (acc.reverse.getD j 0).testBit i = true → D i = true) →
    ∀ j o, ops[j]? = some o → Ready o D → ∀ i, ((befN l acc).getD j 0).testBit i = true → D i = true
  | [], k, acc, hl, hk, hacc, j, o, ho, hr, i, hi => by
    simp only [befN] at hi
    have : j < k := by
      rcases Nat.lt_or_ge j k with h | h
      · exact h
      · have := hl (j - k)
        rw [show k + (j - k) = j by omega, ho] at this
        simp at this
    exact hacc j o this ho hr i hi
  | o0 :: r, k, acc, hl, hk, hacc, j, o, ho, hr, i, hi => by
    simp only [befN] at hi
    have hk0 : ops[k]? = some o0 := by simpa using (hl 0).symm
    refine befN_bit hD hedge r (k + 1) _ (fun j => by have := hl (j + 1); simpa [Nat.add_assoc, Nat.add_comm 1 j] using this) (by simp [hk]) (fun j' o' hj' ho' hr' i' hi' => ?_) j o ho hr i hi
    rw [List.reverse_cons] at hi'
    by_cases hjk : j' < k
    · have e1 : ∀ x, (acc.reverse ++ [x]).getD j' 0 = acc.reverse.getD j' 0 := fun x => by
        simp only [List.getD_eq_getElem?_getD]; rw [List.getElem?_append_left (by simp; omega)]
      rw [e1] at hi'
      exact hacc j' o' hjk ho' hr' i' hi'
    · have hjk : j' = k := by omega
      subst hjk
      rw [hk0] at ho'
      cases ho'
      have e1 : ∀ (x : Nat), (acc.reverse ++ [x]).getD j' 0 = x := fun x => by
        simp only [List.getD_eq_getElem?_getD]; rw [List.getElem?_append_right (by simp; omega)]; simp [hk]
      rw [e1] at hi'
      rcases befFold_bit acc.reverse _ _ _ hi' with h1 | ⟨e, h1, h2, h3⟩
      · simp at h1
      · have hon := hr' e h1 h2
        rcases h3 with rfl | h3
        · exact hon
        · have hlt : e.on < j' := by
            have := hedge j' o0 hk0
            unfold edgesOk at this
            rw [List.all_eq_true] at this
            have := this e h1
            rw [h2] at this
            simpa [Nat.blt_eq] using this
          have hex : ∃ oe, ops[e.on]? = some oe := by
            have : j' < ops.length := (List.getElem?_eq_some_iff.1 hk0).1
            exact ⟨_, List.getElem?_eq_getElem (by omega)⟩
          obtain ⟨oe, hoe⟩ := hex
          exact hacc e.on oe hlt hoe (hD e.on oe hoe hon) i' h3

theorem disj_not {a b : List Nat} (h : disj a b = true) {x : Nat} (ha : x ∈ a) (hb : x ∈ b) : False := by
  unfold disj at h
  rw [List.all_eq_true] at h
  have h := h x ha
  rw [List.all_eq_true] at h
  have h := h x hb
  rw [beqN] at h
  simp at h

theorem indep_get {ops : List Oper} {es : List Eff} (hl : es.length = ops.length) (h : indep ops (endF 0 es []) = true) :
    (∀ i o, ops[i]? = some o → edgesOk o i = true) ∧ ∀ i j oi oj ei ej, i < j → ops[i]? = some oi → ops[j]? = some oj → es[i]? = some ei → es[j]? = some ej → ((befN ops []).getD j 0).testBit i = true ∨ apartE ops oi oj ei ej = true := by
  unfold indep at h
  rw [List.all_eq_true] at h
  have hmem : ∀ i o, ops[i]? = some o → (o, i) ∈ ops.zipIdx := fun i o ho => by
    rw [List.mem_iff_getElem?]
    exact ⟨i, by simp [List.getElem?_zipIdx, ho]⟩
  refine ⟨fun i o ho => ?_, fun i j oi oj ei ej hij hoi hoj hei hej => ?_⟩
  · have := h _ (hmem i o ho)
    simp only [Bool.and_eq_true] at this
    exact this.1.2
  · have := h _ (hmem j oj hoj)
    simp only [Bool.and_eq_true] at this
    have h2 := this.2
    rw [List.all_eq_true] at h2
    have h3 := h2 (oi, i) (by
      rw [List.mem_iff_getElem?]
      exact ⟨i, by simp [List.getElem?_zipIdx, hij, hoi]⟩)
    simp only [Bool.or_eq_true] at h3
    rcases h3 with h3 | h3
    · exact .inl h3
    · have q : ∀ k e, es[k]? = some e → lkO (endF 0 es []) k = some e := fun k e hk => by
        rw [lkO_endF, if_pos ⟨Nat.zero_le _, by have := (List.getElem?_eq_some_iff.1 hk).1; omega⟩]
        simpa using hk
      rw [q i ei hei, q j ej hej] at h3
      exact .inr h3

theorem keys_of {ch : List (Nat × Chunk)} {c : Nat} (h : lkO ch c ≠ none) : c ∈ ch.map (·.1) := by
  induction ch with
  | nil => exact (h rfl).elim
  | cons x r ih =>
    obtain ⟨k, v⟩ := x
    rw [lkO_cons] at h
    by_cases e : k = c
    · simp [e]
    · rw [if_neg e] at h
      simp only [List.map_cons, List.mem_cons]
      exact .inr (ih h)

/-- An operation at another state that is the same where it looks. -/
theorem Step.move {all : List Oper} {s s' : St} {o : Oper} {e : Eff} (h : Step cx all s o e) (ht : ∀ t, t ∈ looks all o → lk .any s'.tm t = lk .any s.tm t) (hm : ∀ c, c ∈ e.rd → lkO s'.mem c = lkO s.mem c) : Step cx all s' o e := by
  have hw : wantB all s'.tm o = wantB all s.tm o := by
    unfold wantB
    cases hg : o.guard with
    | none => rfl
    | some g =>
      obtain ⟨j, b⟩ := g
      dsimp only
      cases hj : all[j]? with
      | none => rfl
      | some oj =>
        dsimp only
        cases hd : oj.dst with
        | none => rfl
        | some d =>
          dsimp only
          rw [ht d (by unfold looks; rw [hg]; simp [hj, hd])]
  rcases h with ⟨h1, h2, h3, h4, h5⟩ | ⟨h1, h2⟩
  · have hop : ∀ x, x ∈ o.op.operands → ev s'.tm x = ev s.tm x := fun x hx => by
      cases x with
      | tmp t =>
        show lk .any s'.tm t = lk .any s.tm t
        refine ht t ?_
        unfold looks
        refine List.mem_append.2 (.inl ?_)
        rw [List.mem_filterMap]
        exact ⟨.tmp t, by simpa using hx, rfl⟩
      | const v => rfl
      | global g => rfl
      | func f => rfl
    have e1 : opx cx s'.mem (ev s'.tm) o = opx cx s.mem (ev s.tm) o := by
      unfold opx
      rw [opE_congr hop]
      refine opE_same h2 (fun c hc => hm c ?_)
      rw [h4]; exact hc
    exact .inl ⟨by rw [hw]; exact h1, by rw [e1]; exact h2, by rw [e1]; exact ⟨h3, h4, h5⟩⟩
  · exact .inr ⟨by rw [hw]; exact h1, h2⟩

/-- How many are to come. -/
def toCome (n : Nat) (listed : Array Bool) : Nat := ((List.range n).filter fun i => !listed.getD i true).length

theorem toCome_set {n i : Nat} {listed : Array Bool} (hn : listed.size = n) (hi : listed.getD i true = false) : toCome n listed = toCome n (listed.setIfInBounds i true) + 1 := by
  have hin : i < n := by
    rcases Nat.lt_or_ge i n with h | h
    · exact h
    · rw [Array.getD_eq_getD_getElem?, Array.getElem?_eq_none (by omega)] at hi; cases hi
  unfold toCome
  have key : ∀ (l : List Nat), l.Nodup → i ∈ l → (∀ k, k ∈ l → k < n) → (l.filter fun i => !listed.getD i true).length = (l.filter fun k => !(listed.setIfInBounds i true).getD k true).length + 1 := by
    intro l
    induction l with
    | nil => intro _ h; cases h
    | cons x r ih =>
      intro hnd hmem hlt
      simp only [List.nodup_cons] at hnd
      by_cases hx : x = i
      · subst hx
        have h1 : (listed.setIfInBounds x true).getD x true = true := by simp [Array.getD_eq_getD_getElem?, hn, hin]
        have h2 : (r.filter fun k => !(listed.setIfInBounds x true).getD k true) = r.filter fun k => !listed.getD k true := by
          apply List.filter_congr
          intro k hk
          have : ¬ x = k := fun e => hnd.1 (e ▸ hk)
          simp [Array.getD_eq_getD_getElem?, this]
        rw [List.filter_cons, if_pos (by rw [hi]; rfl), List.filter_cons, if_neg (by rw [h1]; simp), h2]
        rfl
      · have h1 : (listed.setIfInBounds i true).getD x true = listed.getD x true := by simp [Array.getD_eq_getD_getElem?, Ne.symm hx]
        have ih' := ih hnd.2 ((List.mem_cons.1 hmem).resolve_left (fun e => hx e.symm)) (fun k hk => hlt k (List.mem_cons_of_mem _ hk))
        rw [List.filter_cons, List.filter_cons, h1]
        split
        · simp only [List.length_cons]; omega
        · exact ih'
  exact key _ List.nodup_range (List.mem_range.2 hin) (fun k hk => List.mem_range.1 hk)

theorem toCome_zero {n : Nat} {listed : Array Bool} (hn : listed.size = n) (h : toCome n listed = 0) : ∀ i, i < n → listed.getD i false = true := by
  intro i hi
  have : ¬ i ∈ (List.range n).filter fun i => !listed.getD i true := by
    unfold toCome at h
    rw [List.length_eq_zero_iff] at h
    rw [h]
    simp
  simp only [List.mem_filter, List.mem_range, hi, true_and, Bool.not_eq_true', Bool.not_eq_false] at this
  rw [Array.getD_eq_getD_getElem?, Array.getElem?_eq_getElem (by omega)] at this ⊢
  simpa using this
end
end Go.Rx

/- The framework, part 19: a region that draws its order: one walk in the order of the text serves for all. -/
namespace Go.Rx
set_option linter.unusedSectionVars false
open Go.RowKit

end Go.Rx

/- The framework, part 20: equal piece by piece; a state at a loop's head. -/
namespace Go.Rx
set_option linter.unusedSectionVars false
open Go.RowKit

theorem andL_all : ∀ (ps : List Prop), andL ps ↔ ∀ p, p ∈ ps → p
  | [] => by simp [andL]
  | p :: r => by
    have := andL_all r
    simp only [andL, List.mem_cons, forall_eq_or_imp] at this ⊢
    rw [this]

theorem andL_app {a b : List Prop} (h : andL (a ++ b)) : andL a ∧ andL b := by
  rw [andL_all] at h
  exact ⟨(andL_all a).2 fun p hp => h p (List.mem_append.2 (.inl hp)), (andL_all b).2 fun p hp => h p (List.mem_append.2 (.inr hp))⟩

section
variable {E : Env} {m : Nat → Option Chunk} {w : World}

theorem eqS_cv {x : Value} {a b : SV} (h : CV E m w x a) (he : andL (eqS a b)) : CV E m w x b := by
  unfold eqS at he
  split at he
  · rename_i k n k' n'
    split at he
    · rename_i hk
      have := of_decide_eq_true hk
      subst this
      simp only [andL, and_true] at he
      subst he
      exact h
    · exact he.1.elim
  · simp only [andL, and_true] at he; subst he; exact h
  · simp only [andL, and_true] at he; subst he; rw [h.inv_tt]; exact .conc _ _ (.bool _)
  · simp only [andL, and_true] at he; subst he; rw [h.inv_ff]; exact .conc _ _ (.bool _)
  · simp only [andL, and_true] at he; subst he; exact h
  · rename_i ks l ks' l'
    split at he
    · rename_i hk
      have := cksEq_eq _ _ hk
      subst this
      simp only [andL, and_true] at he
      subst he
      exact h
    · exact he.1.elim
  · simp only [andL, and_true] at he; subst he; rw [h.inv_nilsl]; exact .conc _ _ (.sl0 _ _ _)
  · simp only [andL, and_true] at he; subst he; exact h

theorem eqSs_cv : ∀ {as bs : List SV}, andL (eqSs as bs) → as.length = bs.length ∧ ∀ (x : Value) (i : Nat), CV E m w x (as.getD i .any) → CV E m w x (bs.getD i .any)
  | [], [], _ => ⟨rfl, fun _ i h => h⟩
  | a :: r, b :: s, he => by
    simp only [eqSs] at he
    obtain ⟨h1, h2⟩ := andL_app he
    obtain ⟨h3, h4⟩ := eqSs_cv h2
    refine ⟨by simp [h3], fun x i h => ?_⟩
    cases i with
    | zero => exact (by simpa using eqS_cv (by simpa using h) h1)
    | succ i => simpa using h4 x i (by simpa using h)
  | [], _ :: _, he => he.1.elim
  | _ :: _, [], he => he.1.elim

theorem eqTop_cv {x : Value} {a b : SV} (h : CV E m w x a) (he : andL (eqTop a b)) : CV E m w x b := by
  unfold eqTop at he
  split at he
  · obtain ⟨xs, rfl, h1, h2⟩ := h.inv_agg
    obtain ⟨h3, h4⟩ := eqSs_cv (E := E) (m := m) (w := w) he
    exact .agg xs _ (by omega) (fun i => h4 _ i (h2 i))
  · split at he
    · rename_i h1 h2
      have := Nat.eq_of_beq_eq_true h1
      have := Nat.eq_of_beq_eq_true h2
      subst_vars
      exact h
    · exact he.1.elim
  · split at he
    · rename_i h1 h2
      have := Nat.eq_of_beq_eq_true h1
      have := Nat.eq_of_beq_eq_true h2
      subst_vars
      exact h
    · exact he.1.elim
  · exact h
  · exact h
  · exact h
  · exact h
  · exact h
  · simp only [andL, and_true] at he
    subst he
    rw [h.inv_nilp]
    exact .conc _ _ (.oep _ _ _ _ _ _ (fun _ => rfl) (fun h => by cases h))
  · split at he
    · rename_i hk
      have := cksEq_eq _ _ hk
      subst this
      simp only [andL, and_true] at he
      obtain ⟨rfl, rfl, rfl, rfl⟩ := he
      exact .conc _ _ (.oep _ _ _ _ _ _ (fun h => by cases h) (fun _ => h.inv_ep))
    · exact he.1.elim
  · split at he
    · rename_i hk
      have := cksEq_eq _ _ hk
      subst this
      simp only [andL, and_true] at he
      obtain ⟨rfl, he⟩ := he
      refine .conc _ _ ?_
      have hc := h.inv_oep
      cases hc with
      | oep b x _ _ _ _ q1 q2 => exact .oep _ _ _ _ _ _ q1 (fun hb => by
          obtain ⟨rfl, rfl, rfl⟩ := he hb
          exact q2 hb)
    · exact he.1.elim
  · exact .conc _ _ (.any _)
  · exact eqS_cv h he

theorem eqRs_cv : ∀ {as bs : List SV}, andL (eqR.eqRs as bs) → as.length = bs.length ∧ ∀ (x : Value) (i : Nat), CV E m w x (as.getD i .any) → CV E m w x (bs.getD i .any)
  | [], [], _ => ⟨rfl, fun _ i h => h⟩
  | a :: r, b :: s, he => by
    simp only [eqR.eqRs] at he
    obtain ⟨h1, h2⟩ := andL_app he
    obtain ⟨h3, h4⟩ := eqRs_cv h2
    refine ⟨by simp [h3], fun x i h => ?_⟩
    cases i with
    | zero => exact (by simpa using eqTop_cv (by simpa using h) h1)
    | succ i => simpa using h4 x i (by simpa using h)
  | [], _ :: _, he => he.1.elim
  | _ :: _, [], he => he.1.elim

theorem eqR_cv {x : Value} {a b : SV} (h : CV E m w x a) (he : andL (eqR a b)) : CV E m w x b := by
  unfold eqR at he
  split at he
  · obtain ⟨xs, rfl, h1, h2⟩ := h.inv_tup
    obtain ⟨h3, h4⟩ := eqRs_cv (E := E) (m := m) (w := w) he
    exact .tup xs _ (by omega) (fun i => h4 _ i (h2 i))
  · exact eqTop_cv h he
end

section
variable {cx : Cx} {P : Program} [Laid P] {B : Nat} {M I0 : Nat → Prop} {G : Nat → Value} {w0 : World} {E : Env} {s : St} {a : Act} {w : World}

theorem eqTm_cv {m : Nat → Option Chunk} : ∀ {as bs : List (Nat × SV)}, andL (eqTm as bs) → ∀ (x : Value) (t : Nat), CV E m w x (lk .any as t) → CV E m w x (lk .any bs t)
  | [], [], _ => fun _ t h => h
  | (k, a) :: r, (k', b) :: s, he => by
    simp only [eqTm] at he
    split at he
    · rename_i hk
      have := Nat.eq_of_beq_eq_true hk
      subst this
      obtain ⟨h1, h2⟩ := andL_app he
      intro x t h
      rw [lk_cons] at h ⊢
      by_cases e : k = t
      · rw [if_pos e] at h ⊢; exact eqTop_cv h h1
      · rw [if_neg e] at h ⊢; exact eqTm_cv h2 x t h
    · exact he.1.elim
  | [], _ :: _, he => he.1.elim
  | _ :: _, [], he => he.1.elim

/-- Memory that is the same, piece by piece. -/
def EqC : Option Chunk → Option Chunk → Prop
  | none, none => True
  | some c, some d => andL (eqC c d)
  | _, _ => False

theorem eqMem_lk : ∀ {as bs : List (Nat × Chunk)}, andL (eqMem as bs) → ∀ c, EqC (lkO as c) (lkO bs c)
  | [], [], _ => fun c => trivial
  | (k, a) :: r, (k', b) :: s, he => by
    simp only [eqMem] at he
    split at he
    · rename_i hk
      have := Nat.eq_of_beq_eq_true hk
      subst this
      obtain ⟨h1, h2⟩ := andL_app he
      intro c
      rw [lkO_cons, lkO_cons]
      by_cases e : k = c
      · rw [if_pos e, if_pos e]; exact h1
      · rw [if_neg e, if_neg e]; exact eqMem_lk h2 c
    · exact he.1.elim
  | [], _ :: _, he => he.1.elim
  | _ :: _, [], he => he.1.elim

theorem eqCs_cv {m : Nat → Option Chunk} : ∀ (as bs : List SV), andL ((as.zip bs).foldr (fun (p : SV × SV) r => eqTop p.1 p.2 ++ r) (match Nat.beq as.length bs.length with
      | true => []
      | false => [False])) → as.length = bs.length ∧ ∀ {x : Value} (i : Nat), CV E m w x (as.getD i .any) → CV E m w x (bs.getD i .any) := by
  have key : ∀ (as bs : List SV) (tail : List Prop), andL ((as.zip bs).foldr (fun (p : SV × SV) r => eqTop p.1 p.2 ++ r) tail) → andL tail ∧ (as.length = bs.length → ∀ {x : Value} (i : Nat), CV E m w x (as.getD i .any) → CV E m w x (bs.getD i .any)) := by
    intro as
    induction as with
    | nil => intro bs tail h; exact ⟨by simpa using h, fun hl x i hx => by have : bs = [] := List.eq_nil_of_length_eq_zero hl.symm; subst this; exact hx⟩
    | cons a r ih =>
      intro bs tail h
      cases bs with
      | nil => exact ⟨by simpa using h, fun hl => by simp at hl⟩
      | cons b s =>
        simp only [List.zip_cons_cons, List.foldr_cons] at h
        obtain ⟨h1, h2⟩ := andL_app h
        obtain ⟨h3, h4⟩ := ih s tail h2
        refine ⟨h3, fun hl x i hx => ?_⟩
        cases i with
        | zero => exact (by simpa using eqTop_cv (by simpa using hx) h1)
        | succ i => simpa using h4 (by simpa using hl) i (by simpa using hx)
  intro as bs h
  obtain ⟨h1, h2⟩ := key as bs _ h
  cases hb : Nat.beq as.length bs.length with
  | true => exact ⟨Nat.eq_of_beq_eq_true hb, h2 (Nat.eq_of_beq_eq_true hb)⟩
  | false => rw [hb] at h1; exact h1.1.elim

theorem andL_nil_append {p : List Prop} : andL ([] ++ p) ↔ andL p := Iff.rfl

/-- The same state, piece by piece. -/
theorem Rel.eqSt {s' : St} (h : Rel P cx.nt B M I0 G w0 E s a w) (he : andL (eqSt s s')) : Rel P cx.nt B M I0 G w0 E s' a w := by
  obtain ⟨h1, h2⟩ := andL_app he
  have hlk := eqMem_lk h2
  have kind : ∀ c ch, lkO s.mem c = some ch → ∃ ch', lkO s'.mem c = some ch' ∧ andL (eqC ch ch') := fun c ch hc => by
    have := hlk c
    rw [hc] at this
    cases hq : lkO s'.mem c with
    | none => rw [hq] at this; exact this.elim
    | some ch' => rw [hq] at this; exact ⟨ch', rfl, this⟩
  have hver : ∀ c v, verOf (lkO s.mem c) = some v → verOf (lkO s'.mem c) = some v := fun c v hc => by
    cases hq : lkO s.mem c with
    | none => rw [hq] at hc; cases hc
    | some ch =>
      obtain ⟨ch', e1, e2⟩ := kind c ch hq
      rw [e1]
      rw [hq] at hc
      cases ch <;> cases ch' <;> first | (simp [verOf] at hc; done) | exact e2.1.elim | skip
      · simp only [eqC] at e2
        split at e2
        · rename_i q0 q1 q2
          rw [← Nat.eq_of_beq_eq_true q0]; exact hc
        · exact e2.1.elim
      · simp only [eqC] at e2
        split at e2
        · rename_i q0 q2
          rw [← Nat.eq_of_beq_eq_true q0]; exact hc
        · exact e2.1.elim
  have hm : ∀ x v, CV E (lkO s.mem) w x v → CV E (lkO s'.mem) w x v := fun x v hx => by
    refine CV.mono (E := E) (m := lkO s.mem) (w := w) (fun _ h => h) (fun _ _ => rfl) (fun c t cs b hc hl => ⟨?_, hl⟩) (fun c b hc hl => ?_) (fun c v hc => ?_) hx
    · obtain ⟨ch', e1, e2⟩ := kind c _ hc
      cases ch' with
      | box t' cs' => exact ⟨t', cs', e1⟩
      | row => exact e2.1.elim
      | froz => exact e2.1.elim
      | gh => exact e2.1.elim
      | mp => exact e2.1.elim
      | it => exact e2.1.elim
    · cases hk : lkO s.mem c with
      | none => exact (isPt_none hc hk).elim
      | some ch =>
        obtain ⟨ch', e1, e2⟩ := kind c _ hk
        rw [e1]
        refine ⟨?_, ?_, hl⟩ <;> (cases ch <;> cases ch' <;> first | exact id | exact e2.1.elim | (intro h; cases h))
    · exact ⟨v, hver c v hc, Nat.le_refl _, fun _ => ⟨rfl, fun _ h => h⟩⟩
  refine ⟨h.defers, h.tsize, h.fr, h.base, h.i0, h.inew, fun c b hc => ?_, h.inj, fun t => eqTm_cv h1 _ t (hm _ _ (h.tm t)), fun c => ?_, h.ld, h.gv⟩
  · obtain ⟨q1, q2, q3⟩ := h.loc c b hc
    refine ⟨q1, q2, q3.imp id (fun q0 => q0.imp id fun q => ⟨q.1, ?_⟩)⟩
    cases hq : lkO s.mem c with
    | none =>
      have := hlk c
      rw [hq] at this
      cases hq' : lkO s'.mem c with
      | none => rfl
      | some ch' => rw [hq'] at this; exact this.elim
    | some ch =>
      obtain ⟨ch', e1, e2⟩ := kind c ch hq
      rw [e1]
      rw [hq] at q
      cases ch <;> cases ch' <;> first | rfl | exact e2.1.elim | (simp [verOf] at q)
  · have hc := h.ch c
    have := hlk c
    cases hq : lkO s.mem c with
    | none =>
      rw [hq] at this
      cases hq' : lkO s'.mem c with
      | none => trivial
      | some ch' => rw [hq'] at this; exact this.elim
    | some ch =>
      obtain ⟨ch', e1, e2⟩ := kind c ch hq
      rw [e1]
      rw [hq] at hc
      cases ch <;> cases ch' <;> try exact e2.1.elim
      · rename_i t cs t' cs'
        simp only [eqC] at e2
        split at e2
        · rename_i ht
          have := Nat.eq_of_beq_eq_true ht
          subst this
          obtain ⟨b, xs, p1, p2, p3, p4⟩ := hc
          obtain ⟨l1, l2⟩ := eqCs_cv (E := E) (w := w) (m := lkO s'.mem) cs cs' e2
          exact ⟨b, xs, p1, p2, by omega, fun i => l2 i (hm _ _ (p4 i))⟩
        · exact e2.1.elim
      · rename_i v e ks l v' e' ks' l'
        simp only [eqC] at e2
        split at e2
        · rename_i q0 q1 q2
          have := Nat.eq_of_beq_eq_true q0
          have := Nat.eq_of_beq_eq_true q1
          have := cksEq_eq _ _ q2
          simp only [andL, and_true] at e2
          subst_vars
          exact hc
        · exact e2.1.elim
      · rename_i v ks l v' ks' l'
        simp only [eqC] at e2
        split at e2
        · rename_i q0 q2
          have := Nat.eq_of_beq_eq_true q0
          have := cksEq_eq _ _ q2
          simp only [andL, and_true] at e2
          subst_vars
          exact hc
        · exact e2.1.elim
      · simp only [eqC] at e2
        exact eqTop_cv (hm _ _ hc) e2
      · rename_i t kk vk l ck t' kk' vk' l' ck'
        simp only [eqC] at e2
        split at e2
        · rename_i q0 q1
          have q2 := cksEq_eq _ _ q1
          simp only [List.cons.injEq, and_true] at q2
          simp only [andL, and_true] at e2
          obtain ⟨rfl, rfl⟩ := e2
          obtain ⟨rfl, rfl⟩ := q2
          exact hc
        · exact e2.1.elim
      · rename_i d a sn z d' a' sn' z'
        simp only [eqC] at e2
        split at e2
        · rename_i q0
          have := Nat.eq_of_beq_eq_true q0
          simp only [andL, and_true] at e2
          obtain ⟨rfl, rfl, rfl⟩ := e2
          subst this
          obtain ⟨b, db, q1, q2, q3⟩ := hc
          exact ⟨b, db, q1, hm _ _ q2, q3⟩
        · exact e2.1.elim

/-! ### What a loop keeps -/
theorem keepM_lk (m : List (Nat × Chunk)) (km : List Nat) : ∀ (l : List Nat) (c : Nat), lkO (keepM m km l) c = if c ∈ l then (lkO m c).map (normC m km) else none
  | [], c => by simp [keepM, lkO]
  | d :: r, c => by
    simp only [keepM]
    have ih := keepM_lk m km r c
    cases hd : lkO m d with
    | none =>
      dsimp only
      rw [ih]
      by_cases e : c = d
      · subst e; simp [hd]
      · simp [e]
    | some ch =>
      dsimp only
      rw [lkO_cons, ih]
      by_cases e : d = c
      · subst e; rw [if_pos rfl, if_pos (List.mem_cons_self ..), hd]; rfl
      · rw [if_neg e]
        by_cases hcr : c ∈ r
        · rw [if_pos hcr, if_pos (List.mem_cons_of_mem _ hcr)]
        · rw [if_neg hcr, if_neg (fun h => by rcases List.mem_cons.1 h with h | h; exact e h.symm; exact hcr h)]

theorem normL_length (mm : List (Nat × Chunk)) (km : List Nat) : ∀ (cs : List SV), (normL mm km cs).length = cs.length
  | [] => rfl
  | v :: r => by simp [normL, normL_length mm km r]

theorem normC_ver {m : List (Nat × Chunk)} {km : List Nat} {o : Option Chunk} {v : Nat} (h : verOf o = some v) : verOf (o.map (normC m km)) = some 0 := by
  cases o with
  | none => cases h
  | some ch => cases ch <;> simp [verOf] at h <;> rfl

theorem keep_mp {mm : List (Nat × Chunk)} {km : List Nat} {x : Value} {c : Nat} (h : CV E (lkO mm) w x (.mpp c)) (hk : c ∈ km) : CV E (lkO (keepM mm km km)) w x (.mpp c) := by
  obtain ⟨b, rfl, h1, h2⟩ := h.inv_mpp
  obtain ⟨t, kk, vk, l, ck, h3⟩ := isMp_some h1
  exact .mpp c b (by rw [keepM_lk, if_pos hk, h3]; rfl) h2
mutual
theorem normV_cv {mm : List (Nat × Chunk)} {km : List Nat} (hch : ∀ c, ChR E (lkO mm) w c (lkO mm c)) : ∀ (v : SV) (x : Value), CV E (lkO mm) w x v → CV E (lkO (keepM mm km km)) w x (normV mm km v)
  | .osl c ver, x, h => by
    simp only [normV]
    cases hk : km.contains c with
    | false =>
      cases hm : lkO mm c with
      | none => exact .conc _ _ (.any _)
      | some ch =>
        cases ch with
        | box => exact .conc _ _ (.any _)
        | gh => exact .conc _ _ (.any _)
        | mp => exact .conc _ _ (.any _)
        | it => exact .conc _ _ (.any _)
        | row v2 e ks l => exact .conc _ _ (.any _)
        | froz v2 ks l =>
          dsimp only
          cases hb : Nat.beq v2 ver with
          | false => exact .conc _ _ (.any _)
          | true =>
            obtain ⟨v', e1, e2⟩ := h.inv_osl
            rw [hm] at e1
            simp only [verOf, Option.some.injEq] at e1
            have hc := hch c
            rw [hm] at hc
            have hc : Conc E.I w (E.cv c) (.sl ks l) := hc
            rw [← e2 (by rw [← e1]; exact (Nat.eq_of_beq_eq_true hb).symm)] at hc
            exact .conc _ _ hc
    | true =>
      have hk' : c ∈ km := by simpa using hk
      obtain ⟨v', e1, e2⟩ := h.inv_osl
      have hv0 : verOf (lkO (keepM mm km km) c) = some 0 := by rw [keepM_lk, if_pos hk']; exact normC_ver e1
      have good : v' = ver → CV E (lkO (keepM mm km km)) w x (.osl c 0) := fun e => .osl x c 0 0 hv0 (Nat.le_refl _) (fun _ => e2 e.symm)
      cases hm : lkO mm c with
      | none => exact .conc _ _ (.any _)
      | some ch =>
        rw [hm] at e1
        cases ch with
        | box => exact .conc _ _ (.any _)
        | gh => exact .conc _ _ (.any _)
        | mp => exact .conc _ _ (.any _)
        | it => exact .conc _ _ (.any _)
        | row v2 e ks l =>
          simp only [verOf, Option.some.injEq] at e1
          dsimp only
          cases hb : Nat.beq v2 ver with
          | true => exact good (by rw [← e1]; exact Nat.eq_of_beq_eq_true hb)
          | false => exact .conc _ _ (.any _)
        | froz v2 ks l =>
          simp only [verOf, Option.some.injEq] at e1
          dsimp only
          cases hb : Nat.beq v2 ver with
          | true => exact good (by rw [← e1]; exact Nat.eq_of_beq_eq_true hb)
          | false => exact .conc _ _ (.any _)
  | .ptr c off, x, h => by
    simp only [normV]
    cases hk : km.contains c with
    | false => exact .conc _ _ (.any _)
    | true =>
      obtain ⟨b, t, cs, rfl, h1, h2⟩ := h.inv_ptr
      exact .ptr c off b t (normL mm km cs) (by rw [keepM_lk, if_pos (by simpa using hk), h1]; rfl) h2
  | .ptx c off, x, h => by
    simp only [normV]
    cases hk : km.contains c with
    | false => exact .conc _ _ (.any _)
    | true =>
      obtain ⟨b, t, cs, rfl, h1, h2⟩ := h.inv_ptx
      exact .ptx c off b t (normL mm km cs) (by rw [keepM_lk, if_pos (by simpa using hk), h1]; rfl) h2
  | .mpp c, x, h => by
    simp only [normV]
    cases hk : km.contains c with
    | false => exact .conc _ _ (.any _)
    | true => exact keep_mp h (by simpa using hk)
  | .itp c, x, h => by
    simp only [normV]
    obtain ⟨b, rfl, h1, h2⟩ := h.inv_itp
    obtain ⟨d, a, sn, z, h3⟩ := isIt_some h1
    rw [h3]
    cases hk : km.contains c with
    | false => exact .conc _ _ (.any _)
    | true =>
      dsimp only
      cases hd : km.contains d with
      | false => exact .conc _ _ (.any _)
      | true => exact .itp c b (by rw [keepM_lk, if_pos (by simpa using hk), h3]; simp only [Option.map, normC, hd]; rfl) h2
  | .rptr _ _ _ _ _, x, h => .conc _ _ (.any _)
  | .otl _ _ _ _, x, h => .conc _ _ (.any _)
  | .agg cs, x, h => by
    obtain ⟨xs, rfl, h1, h2⟩ := h.inv_agg
    exact .agg xs _ (by rw [normL_length]; exact h1) (fun i => normL_cv hch cs i _ (h2 i))
  | .tup cs, x, h => by
    obtain ⟨xs, rfl, h1, h2⟩ := h.inv_tup
    exact .tup xs _ (by rw [normL_length]; exact h1) (fun i => normL_cv hch cs i _ (h2 i))
  | .fn f cs, x, h => by
    obtain ⟨xs, rfl, h1, h2⟩ := h.inv_fn
    exact .fn f xs _ (by rw [normL_length]; exact h1) (fun i => normL_cv hch cs i _ (h2 i))
  | .any, x, _ => .conc _ _ (.any _)
  | .und, x, h => by rw [h.inv_und]; exact .conc _ _ .und
  | .int _ _, x, h => by rw [h.inv_int]; exact .conc _ _ (.int _ _)
  | .bool _, x, h => by rw [h.inv_bool]; exact .conc _ _ (.bool _)
  | .tt, x, h => by rw [h.inv_tt]; exact .conc _ _ .tt
  | .ff, x, h => by rw [h.inv_ff]; exact .conc _ _ .ff
  | .str _, x, h => by obtain ⟨b, rfl, e⟩ := h.inv_str; exact .conc _ _ (.str _ _ e)
  | .flt _, x, h => by rw [h.inv_flt]; exact .conc _ _ (.flt _)
  | .cpx _ _, x, h => by rw [h.inv_cpx]; exact .conc _ _ (.cpx _ _)
  | .sl _ _, x, h => .conc _ _ h.inv_sl
  | .ep _ _ _ _, x, h => .conc _ _ h.inv_ep
  | .oep _ _ _ _ _, x, h => .conc _ _ h.inv_oep
  | .nb l, x, h => by obtain ⟨b, e1, e2⟩ := h.inv_nb; rw [e1]; exact .conc _ _ (.nb b l e2)
  | .fsl ks l, x, h => .conc _ _ (by cases h; assumption)
  | .lp _ _, x, h => by cases h with | conc _ _ h => cases h
  | .nilsl, x, h => by rw [h.inv_nilsl]; exact .conc _ _ .nilsl
  | .nilp, x, h => by rw [h.inv_nilp]; exact .conc _ _ .nilp
theorem normL_cv {mm : List (Nat × Chunk)} {km : List Nat} (hch : ∀ c, ChR E (lkO mm) w c (lkO mm c)) : ∀ (cs : List SV) (i : Nat) (x : Value), CV E (lkO mm) w x (cs.getD i .any) → CV E (lkO (keepM mm km km)) w x ((normL mm km cs).getD i .any)
  | [], i, x, h => by simpa [normL] using CV.conc _ _ (Conc.any _)
  | v :: r, 0, x, h => by simpa [normL] using normV_cv hch v x (by simpa using h)
  | v :: r, i + 1, x, h => by simpa [normL] using normL_cv hch r i x (by simpa using h)
end

theorem keepT_lk (s : St) (km : List Nat) : ∀ (l : List Nat) (t : Nat), lk .any (keepT s km l) t = if t ∈ l then normV s.mem km (lk .any s.tm t) else .any
  | [], t => by simp [keepT, lk]
  | d :: r, t => by
    simp only [keepT]
    rw [lk_cons, keepT_lk s km r t]
    by_cases e : d = t
    · subst e; simp
    · rw [if_neg e]
      by_cases hcr : t ∈ r
      · rw [if_pos hcr, if_pos (List.mem_cons_of_mem _ hcr)]
      · rw [if_neg hcr, if_neg (fun h => by rcases List.mem_cons.1 h with h | h; exact e h.symm; exact hcr h)]

theorem Rel.keep (h : Rel P cx.nt B M I0 G w0 E s a w) (kt km : List Nat) : Rel P cx.nt B M I0 G w0 E ⟨keepT s km kt, keepM s.mem km km⟩ a w := by
  refine ⟨h.defers, h.tsize, h.fr, h.base, h.i0, h.inew, fun c b hc => ?_, h.inj, fun t => ?_, fun c => ?_, h.ld, h.gv⟩
  · obtain ⟨q1, q2, q3⟩ := h.loc c b hc
    refine ⟨q1, q2, q3.imp id (fun q0 => q0.imp id fun q => ⟨q.1, ?_⟩)⟩
    dsimp only
    rw [keepM_lk]
    split
    · cases hq : lkO s.mem c with
      | none => rfl
      | some ch =>
        rw [hq] at q
        cases ch with
        | it d a sn z => simp only [Option.map, normC]; split <;> rfl
        | row => simp [verOf] at q
        | froz => simp [verOf] at q
        | _ => rfl
    · rfl
  · dsimp only
    rw [keepT_lk]
    split
    · exact normV_cv h.ch _ _ (h.tm t)
    · exact .conc _ _ (.any _)
  · dsimp only
    have hc := h.ch c
    have hk := keepM_lk s.mem km km c
    by_cases hin : c ∈ km
    · rw [if_pos hin] at hk
      rw [hk]
      cases hq : lkO s.mem c with
      | none => trivial
      | some ch =>
        rw [hq] at hc
        cases ch with
        | box t cs =>
          obtain ⟨b, xs, p1, p2, p3, p4⟩ := hc
          exact ⟨b, xs, p1, p2, by rw [normL_length]; exact p3, fun i => normL_cv h.ch cs i _ (p4 i)⟩
        | row v e ks l => exact hc
        | froz v ks l => exact hc
        | gh v => exact normV_cv h.ch _ _ hc
        | mp t kk vk l ck => exact hc
        | it d a sn z =>
          obtain ⟨b, db, p1, p2, p3⟩ := hc
          simp only [Option.map, normC]
          split
          · rename_i hd
            exact ⟨b, db, p1, keep_mp p2 (by simpa using hd), p3⟩
          · exact .conc _ _ (.any _)
    · rw [if_neg hin] at hk
      rw [hk]
      trivial

theorem Rel.nilc1 (h : Rel P cx.nt B M I0 G w0 E s a w) {t c e : Nat} {ks : List CK} (h1 : lk .any s.tm t = .nilsl) (h2 : lkO s.mem c = none) : ∃ E', Rel P cx.nt B M I0 G w0 E' ⟨(t, .osl c 0) :: s.tm, (c, .row 0 e ks []) :: s.mem⟩ a w := by
  have ht := h.tm t
  rw [h1] at ht
  have hx := ht.inv_nilsl
  have hlt : t < a.tmps.size := by
    rcases Nat.lt_or_ge t a.tmps.size with h | h
    · exact h
    · rw [Array.getD_eq_getD_getElem?, Array.getElem?_eq_none h] at hx
      simp [undef] at hx
  have hput : a.put (some t) (.slice none 0 0) = a := by
    cases a with
    | mk tmps defers =>
      simp only [Act.put, Act.mk.injEq, and_true]
      apply Array.ext
      · simp
      · intro i h1 h2
        rw [Array.getElem_setIfInBounds (by simpa using h2)]
        split
        · rename_i e
          subst e
          rw [Array.getD_eq_getD_getElem?, Array.getElem?_eq_getElem hlt] at hx
          simpa using hx.symm
        · rfl
  have := h.row (c := c) (ver := 0) (e := e) (ks := ks) (l := []) (x := .slice none 0 0) (w' := w) (row := none) (fz := []) (d := some t) rfl (fun _ => rfl) (.inl ⟨h2, rfl⟩) ⟨rfl, rfl, rfl, Nat.le_refl _, fun _ _ _ => rfl⟩ (fun k hk => by cases hk) (fun b hb => by cases hb) (fun v hv => by cases hv) (xs := [])
    (World.ownsRow_nil w 0 e _) (fun i j hi => by simp at hi) (fun k hk => by cases hk; rw [← h.tsize]; exact hlt)
  rw [hput] at this
  exact ⟨_, this⟩

theorem Rel.reBox (h : Rel P cx.nt B M I0 G w0 E s a w) {c bt : Nat} {cs cs' : List SV} (h1 : lkO s.mem c = some (.box bt cs)) (hl : cs'.length = cs.length) (hcs : ∀ i x, CV E (lkO s.mem) w x (cs.getD i .any) → CV E (lkO s.mem) w x (cs'.getD i .any)) :
    Rel P cx.nt B M I0 G w0 E ⟨s.tm, (c, .box bt cs') :: s.mem⟩ a w := by
  have hlk : ∀ k, lkO ((c, Chunk.box bt cs') :: s.mem) k = if c = k then some (.box bt cs') else lkO s.mem k := fun k => lkO_cons ..
  have hm : ∀ x v, CV E (lkO s.mem) w x v → CV E (lkO ((c, Chunk.box bt cs') :: s.mem)) w x v := fun x v hx => by
    refine CV.mono (E := E) (m := lkO s.mem) (w := w) (fun _ h => h) (fun _ _ => rfl) (fun k t ds b e1 e2 => ⟨?_, e2⟩) (hq_of fun k b e1 e2 => ⟨?_, e2⟩) (fun k v e1 => ?_) hx
    · rw [hlk]
      by_cases e : c = k
      · rw [if_pos e]; exact ⟨_, _, rfl⟩
      · rw [if_neg e]; exact ⟨_, _, e1⟩
    · have e : ¬ c = k := fun e => by subst e; exact isPt_box e1 h1
      rw [hlk, if_neg e]
    · have e : ¬ c = k := fun e => by subst e; rw [h1] at e1; cases e1
      exact ⟨v, by rw [hlk, if_neg e]; exact e1, Nat.le_refl _, fun _ => ⟨rfl, fun _ h => h⟩⟩
  refine ⟨h.defers, h.tsize, h.fr, h.base, h.i0, h.inew, fun k b e1 => ?_, h.inj, fun t => hm _ _ (h.tm t), fun k => ?_, h.ld, h.gv⟩
  · obtain ⟨q1, q2, q3⟩ := h.loc k b e1
    refine ⟨q1, q2, q3.imp id fun q0 => q0.imp id fun ⟨q4, q5⟩ => ⟨q4, ?_⟩⟩
    show verOf (lkO ((c, Chunk.box bt cs') :: s.mem) k) = none
    rw [hlk]
    by_cases e : c = k
    · rw [if_pos e]; rfl
    · rw [if_neg e]; exact q5
  · show ChR E _ w k (lkO ((c, Chunk.box bt cs') :: s.mem) k)
    rw [hlk]
    by_cases e : c = k
    · subst e
      rw [if_pos rfl]
      have := h.ch c
      rw [h1] at this
      obtain ⟨b, xs, p1, p2, p3, p4⟩ := this
      exact ⟨b, xs, p1, p2, by rw [p3, hl], fun i => hm _ _ (hcs i _ (p4 i))⟩
    · rw [if_neg e]
      exact ChR.mono (E := E) (m := lkO s.mem) (w := w) (fun _ h => h) (fun _ _ => rfl) hm rfl rfl (fun _ _ => rfl) (h.ch k)

/-- The empty slice is one of the function's own. -/
theorem Rel.nilRow (h : Rel P cx.nt B M I0 G w0 E s a w) {c e : Nat} {ks : List CK} (h2 : lkO s.mem c = none) : Rel P cx.nt B M I0 G w0 (E.withRow c (.slice none 0 0)) ⟨s.tm, (c, .row 0 e ks []) :: s.mem⟩ a w := by
  have := h.row (c := c) (ver := 0) (e := e) (ks := ks) (l := []) (x := .slice none 0 0) (w' := w) (row := none) (fz := []) (d := none) rfl (fun _ => rfl) (.inl ⟨h2, rfl⟩) ⟨rfl, rfl, rfl, Nat.le_refl _, fun _ _ _ => rfl⟩ (fun k hk => by cases hk) (fun b hb => by cases hb) (fun v hv => by cases hv) (xs := [])
    (World.ownsRow_nil w 0 e _) (fun i j hi => by simp at hi) (fun k hk => by cases hk)
  exact this

theorem Rel.nilBox1 (h : Rel P cx.nt B M I0 G w0 E s a w) (b o c e : Nat) (ks : List CK) : ∃ E', Rel P cx.nt B M I0 G w0 E' (nilBox b o c e ks s) a w := by
  unfold nilBox
  split
  · rename_i t cs h1 h2
    split
    · rename_i h3
      have hbc : ¬ c = b := fun e => by subst e; rw [h2] at h1; cases h1
      refine ⟨_, (h.nilRow (e := e) (ks := ks) h2).reBox (c := b) (bt := t) (cs := cs) (cs' := cs.set o (.osl c 0)) ?_ (by simp) (fun i x hx => ?_)⟩
      · show lkO ((c, Chunk.row 0 e ks []) :: s.mem) b = _
        rw [lkO_cons, if_neg hbc]; exact h1
      · rw [List.getD_eq_getElem?_getD, List.getElem?_set]
        by_cases hi : o = i
        · subst hi
          rw [List.getD_eq_getElem?_getD, h3] at hx
          have hx : CV _ _ _ x .nilsl := hx
          have ho : o < cs.length := (List.getElem?_eq_some_iff.1 h3).1
          rw [if_pos rfl, if_pos ho]
          refine .osl x c 0 0 ?_ (Nat.le_refl _) (fun _ => ?_)
          · show verOf (lkO ((c, Chunk.row 0 e ks []) :: s.mem) c) = some 0
            rw [lkO_cons, if_pos rfl]; rfl
          · rw [hx.inv_nilsl]
            simp [Env.withRow]
        · rw [if_neg hi, ← List.getD_eq_getElem?_getD]
          exact hx
    · exact ⟨E, h⟩
  · exact ⟨E, h⟩

theorem renV_cv {E E' : Env} {m m' : Nat → Option Chunk} {w : World} {a b : Nat} (hI : E'.I = E.I)
    (hbox : ∀ c t cs, m c = some (.box t cs) → (∃ t' cs', m' c = some (.box t' cs')) ∧ E'.loc c = E.loc c)
    (hver : ∀ c v, verOf (m c) = some v → verOf (m' c) = some v ∧ E'.cv c = E.cv c ∧ E'.loc c = E.loc c)
    (hmp : ∀ c, isMp (m c) = true → c ≠ a → c ≠ b → isMp (m' c) = true ∧ E'.loc c = E.loc c) (ha : isMp (m' a) = true ∧ E'.loc a = E.loc b)
    {x : Value} {v : SV} (h : CV E m w x v) : CV E' m' w x (renV a b v) := by
  have hcon : ∀ {v}, Conc E.I w x v → CV E' m' w x v := fun hc => .conc _ _ (by rw [hI]; exact hc)
  cases v with
  | mpp c =>
    obtain ⟨d, rfl, h1, h2⟩ := h.inv_mpp
    simp only [renV]
    cases e1 : Nat.beq c b with
    | true => rw [Nat.eq_of_beq_eq_true e1] at h2; exact .mpp a d ha.1 (by rw [ha.2]; exact h2)
    | false =>
      dsimp only
      cases e2 : Nat.beq c a with
      | true => exact .conc _ _ (.any _)
      | false =>
        obtain ⟨q1, q2⟩ := hmp c h1 (fun e => by subst e; simp at e2) (fun e => by subst e; simp at e1)
        exact .mpp c d q1 (by rw [q2]; exact h2)
  | itp c => exact .conc _ _ (.any _)
  | agg cs =>
    simp only [renV]
    cases hc : closedL cs with
    | false => exact .conc _ _ (.any _)
    | true => exact hcon (closed_conc (.agg cs) x (by simpa [closed] using hc) h)
  | tup cs =>
    simp only [renV]
    cases hc : closedL cs with
    | false => exact .conc _ _ (.any _)
    | true => exact hcon (closed_conc (.tup cs) x (by simpa [closed] using hc) h)
  | fn f cs =>
    simp only [renV]
    cases hc : closedL cs with
    | false => exact .conc _ _ (.any _)
    | true => exact hcon (closed_conc (.fn f cs) x (by simpa [closed] using hc) h)
  | ptr c off =>
    obtain ⟨d, t, cs, rfl, h1, h2⟩ := h.inv_ptr
    obtain ⟨⟨t', cs', q1⟩, q2⟩ := hbox c t cs h1
    exact .ptr c off d t' cs' q1 (by rw [q2]; exact h2)
  | ptx c off =>
    obtain ⟨d, t, cs, rfl, h1, h2⟩ := h.inv_ptx
    obtain ⟨⟨t', cs', q1⟩, q2⟩ := hbox c t cs h1
    exact .ptx c off d t' cs' q1 (by rw [q2]; exact h2)
  | osl c ver =>
    cases h with
    | conc _ _ hc => cases hc
    | osl _ _ _ v h1 h2 h3 =>
      obtain ⟨q1, q2, q3⟩ := hver c v h1
      exact .osl x c ver v q1 h2 (fun e => by rw [q2]; exact h3 e)
  | rptr c sz i o ver =>
    cases h with
    | conc _ _ hc => cases hc
    | rptr _ _ _ _ _ _ v h1 h2 h3 =>
      obtain ⟨q1, q2, q3⟩ := hver c v h1
      exact .rptr x c sz i o ver v q1 h2 (fun e d hd => h3 e d (by rw [← q3]; exact hd))
  | otl c sz k ver =>
    cases h with
    | conc _ _ hc => cases hc
    | otl _ _ _ _ _ v h1 h2 h3 =>
      obtain ⟨q1, q2, q3⟩ := hver c v h1
      exact .otl x c sz k ver v q1 h2 (fun e => by rw [q2]; exact h3 e)
  | _ => cases h with
    | conc _ _ hc => exact hcon hc

theorem renM_lk (a b : Nat) : ∀ (m : List (Nat × Chunk)) (c : Nat), lkO (renM a b m) c = if c = a ∨ c = b then none else (lkO m c).map (renC a b)
  | [], c => by simp [renM, lkO]
  | (k, ch) :: r, c => by
    have ih := renM_lk a b r c
    simp only [renM]
    cases hk : (Nat.beq k a || Nat.beq k b) with
    | true =>
      dsimp only
      rw [ih, lkO_cons]
      rw [Bool.or_eq_true] at hk
      by_cases e : c = a ∨ c = b
      · rw [if_pos e, if_pos e]
      · rw [if_neg e, if_neg e, if_neg]
        intro e2
        subst e2
        exact e (hk.imp Nat.eq_of_beq_eq_true Nat.eq_of_beq_eq_true)
    | false =>
      dsimp only
      rw [lkO_cons, lkO_cons, ih]
      by_cases e2 : k = c
      · subst e2
        rw [if_pos rfl, if_pos rfl, if_neg]
        · rfl
        · rintro (e | e) <;> (subst e; simp at hk)
      · rw [if_neg e2, if_neg e2]
theorem renT_lk (a b : Nat) : ∀ (m : List (Nat × SV)) (t : Nat), lk .any (renT a b m) t = renV a b (lk .any m t)
  | [], t => rfl
  | (k, v) :: r, t => by
    have ih := renT_lk a b r t
    simp only [renT]
    rw [lk_cons, lk_cons, ih]
    split <;> rfl
theorem renV_getD (a b : Nat) (cs : List SV) (i : Nat) : (cs.map (renV a b)).getD i .any = renV a b (cs.getD i .any) := by
  rw [List.getD_eq_getElem?_getD, List.getD_eq_getElem?_getD, List.getElem?_map]
  cases cs[i]? <;> rfl

/-- Another map under a key. -/
theorem Rel.ren (h : Rel P cx.nt B M I0 G w0 E s a w) (k t : Nat) : ∃ E', Rel P cx.nt B M I0 G w0 E' (renMp k t s) a w := by
  unfold renMp
  split
  rotate_left
  · exact ⟨E, h⟩
  rename_i b hb
  split
  · exact ⟨E, h⟩
  rename_i hkb
  split
  rotate_left
  · exact ⟨E, h⟩
  rename_i ty0 k0 e0 l0 c0 ty kk vk l ck hma hmb
  rw [Bool.or_eq_false_iff] at hkb
  have hne : k ≠ b := fun e => by subst e; simp at hkb
  have hne' : b ≠ k := fun e => hne e.symm
  let E' : Env := ⟨fun c => if c = k then E.loc b else if c = b then none else E.loc c, E.cv, E.I, E.gv⟩
  have hloc : ∀ c, c ≠ k → c ≠ b → E'.loc c = E.loc c := fun c h1 h2 => by show (if c = k then _ else _) = _; rw [if_neg h1, if_neg h2]
  have hlk : E'.loc k = E.loc b := by show (if k = k then _ else _) = _; rw [if_pos rfl]
  have hlb : E'.loc b = none := by show (if b = k then _ else _) = _; rw [if_neg hne', if_pos rfl]
  have hm : ∀ c, lkO ((k, Chunk.mp ty kk vk l ck) :: renM k b s.mem) c = if c = k then some (.mp ty kk vk l ck) else if c = b then none else (lkO s.mem c).map (renC k b) := fun c => by
    rw [lkO_cons, renM_lk]
    by_cases e1 : c = k
    · rw [if_pos e1.symm, if_pos e1]
    · rw [if_neg (fun e => e1 e.symm), if_neg e1]
      by_cases e2 : c = b
      · rw [if_pos (.inr e2), if_pos e2]
      · rw [if_neg (by rintro (e | e); exact e1 e; exact e2 e), if_neg e2]
  have hcv : ∀ {x v}, CV E (lkO s.mem) w x v → CV E' (lkO ((k, Chunk.mp ty kk vk l ck) :: renM k b s.mem)) w x (renV k b v) := fun hx => by
    refine renV_cv (E := E) (E' := E') (m := lkO s.mem) rfl (fun c t cs e1 => ?_) (fun c v e1 => ?_) (fun c e1 h1 h2 => ?_) ⟨by rw [hm, if_pos rfl]; rfl, hlk⟩ hx
    · have h1 : c ≠ k := fun e => by subst e; rw [hma] at e1; cases e1
      have h2 : c ≠ b := fun e => by subst e; rw [hmb] at e1; cases e1
      exact ⟨⟨t, cs.map (renV k b), by rw [hm, if_neg h1, if_neg h2, e1]; rfl⟩, hloc c h1 h2⟩
    · have h1 : c ≠ k := fun e => by subst e; rw [hma] at e1; cases e1
      have h2 : c ≠ b := fun e => by subst e; rw [hmb] at e1; cases e1
      refine ⟨?_, rfl, hloc c h1 h2⟩
      rw [hm, if_neg h1, if_neg h2]
      cases hc : lkO s.mem c with
      | none => rw [hc] at e1; cases e1
      | some ch => rw [hc] at e1; cases ch <;> first | exact e1 | cases e1
    · refine ⟨?_, hloc c h1 h2⟩
      obtain ⟨t', kk', vk', l', ck', e2⟩ := isMp_some e1
      rw [hm, if_neg h1, if_neg h2, e2]; rfl
  refine ⟨E', h.defers, h.tsize, h.fr, h.base, h.i0, h.inew, fun c d e1 => ?_, fun c c' d e1 e2 => ?_, fun t => ?_, fun c => ?_, h.ld, h.gv⟩
  · by_cases h1 : c = k
    · subst h1
      rw [hlk] at e1
      obtain ⟨q1, q2, q3⟩ := h.loc b d e1
      refine ⟨q1, q2, q3.imp id fun q0 => .inl ?_⟩
      rcases q0 with q4 | ⟨q4, _⟩
      · exact q4
      · rw [hkb.2] at q4; cases q4
    · by_cases h2 : c = b
      · subst h2; rw [hlb] at e1; cases e1
      · rw [hloc c h1 h2] at e1
        obtain ⟨q1, q2, q3⟩ := h.loc c d e1
        refine ⟨q1, q2, q3.imp id fun q0 => q0.imp id fun ⟨q4, q5⟩ => ⟨q4, ?_⟩⟩
        show verOf (lkO (_ :: _) c) = none
        rw [hm, if_neg h1, if_neg h2]
        cases hc : lkO s.mem c with
        | none => rfl
        | some ch => rw [hc] at q5; cases ch <;> first | rfl | cases q5
  · have key : ∀ c, E'.loc c = some d → (c = k ∧ E.loc b = some d) ∨ (c ≠ k ∧ c ≠ b ∧ E.loc c = some d) := fun c e => by
      by_cases h1 : c = k
      · subst h1; rw [hlk] at e; exact .inl ⟨rfl, e⟩
      · by_cases h2 : c = b
        · subst h2; rw [hlb] at e; cases e
        · rw [hloc c h1 h2] at e; exact .inr ⟨h1, h2, e⟩
    rcases key c e1 with ⟨a1, a2⟩ | ⟨a1, a2, a3⟩ <;> rcases key c' e2 with ⟨b1, b2⟩ | ⟨b1, b2, b3⟩
    · rw [a1, b1]
    · exact absurd (h.inj c' b d b3 a2) b2
    · exact absurd (h.inj c b d a3 b2) a2
    · exact h.inj c c' d a3 b3
  · show CV E' _ w _ (lk .any (renT k b s.tm) t)
    rw [renT_lk]
    exact hcv (h.tm t)
  · show ChR E' (lkO (_ :: _)) w c (lkO (_ :: _) c)
    rw [hm c]
    by_cases h1 : c = k
    · rw [if_pos h1]
      subst h1
      have := h.ch b
      rw [hmb] at this
      obtain ⟨d, q1, q2⟩ := this
      exact ⟨d, by rw [hlk]; exact q1, q2⟩
    · rw [if_neg h1]
      by_cases h2 : c = b
      · rw [if_pos h2]; trivial
      · rw [if_neg h2]
        have hl := hloc c h1 h2
        have := h.ch c
        cases hc : lkO s.mem c with
        | none => trivial
        | some ch =>
          rw [hc] at this
          cases ch with
          | box t cs =>
            obtain ⟨d, xs, p1, p2, p3, p4⟩ := this
            exact ⟨d, xs, by rw [hl]; exact p1, p2, by rw [p3, List.length_map], fun i => by rw [renV_getD]; exact hcv (p4 i)⟩
          | row v e ks l' =>
            have h3 : RowR E w c e ks l' := this
            show RowR E' w c e ks l'
            unfold RowR RowA RowZ at h3 ⊢
            rw [hl]; exact h3
          | froz v ks l' => exact this
          | gh v => exact hcv this
          | mp t1 k1 v1 l1 c1 =>
            obtain ⟨d, q1, q2⟩ := this
            exact ⟨d, by rw [hl]; exact q1, q2⟩
          | it _ _ _ _ => exact .conc _ _ (.any _)

theorem Rel.nilc : ∀ (l : List (Nat × Nat × Nat × List CK)) {E : Env} {s : St}, Rel P cx.nt B M I0 G w0 E s a w → ∃ E', Rel P cx.nt B M I0 G w0 E' (nilConv l s) a w
  | [], E, s, h => ⟨E, h⟩
  | (t, c, e, ks) :: r, E, s, h => by
    simp only [nilConv]
    split
    · split
      · unfold frzAt
        split
        · rename_i hm
          obtain ⟨E', h', _⟩ := h.freeze1 hm
          exact Rel.nilc r h'
        · exact Rel.nilc r h
      · split
        · obtain ⟨E', h'⟩ := h.ren c e
          exact Rel.nilc r h'
        split
        · rename_i h1 h2
          obtain ⟨E', h'⟩ := h.nilc1 (e := e) (ks := ks) h1 h2
          exact Rel.nilc r h'
        · exact Rel.nilc r h
    · obtain ⟨E', h'⟩ := h.nilBox1 ((t - 100000) / 100) ((t - 100000) % 100) c e ks
      exact Rel.nilc r h'

end
end Go.Rx

