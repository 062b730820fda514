/- The framework, part 24: a law's row: arguments of plain kinds, opened; what is read behind the call. -/
import Derived.Test.YtkmiakgpkgmcbaaFw23
import Derived.ProofKit
import Derived.HandedShaped
namespace Go.Rx
open Go.ChangeShapes Go.WideShapes Go.ChangeAt Go.RowKit


/-- The greatest length of a text that may be handed over. -/
def maxStr : Nat := 140737488351232
mutual
/-- A value of a kind, as an argument may be. -/
def wfK : CK → SV → Prop
  | .int k, v => ∃ n, v = .int k n ∧ k.min ≤ n ∧ n ≤ k.max
  | .bool, v => ∃ b, v = .bool b
  | .str, v => ∃ s, v = .str s ∧ s.length ≤ maxStr
  | .flt, _ => False
  | .cpx, _ => False
  | .sl ks, v => ∃ l : List (List SV), v = .sl ks (l.map elOf) ∧ l.length ≤ maxLen ∧ ∀ us, us ∈ l → wfKs ks us
  | .other, _ => False
def wfKs : List CK → List SV → Prop
  | [], us => us = []
  | k :: ks, us => ∃ v vs, us = v :: vs ∧ wfK k v ∧ wfKs ks vs
end

theorem wfKs_length : ∀ {ks : List CK} {us : List SV}, wfKs ks us → us.length = ks.length
  | [], us, h => by rw [wfKs] at h; subst h; rfl
  | k :: ks, us, h => by
    rw [wfKs] at h
    obtain ⟨v, vs, rfl, _, h2⟩ := h
    simp [wfKs_length h2]

theorem wfKs_app : ∀ {ks ks' : List CK} {us us' : List SV}, wfKs ks us → wfKs ks' us' → wfKs (ks ++ ks') (us ++ us')
  | [], ks', us, us', h, h' => by rw [wfKs] at h; subst h; exact h'
  | k :: ks, ks', us, us', h, h' => by
    rw [wfKs] at h
    obtain ⟨v, vs, rfl, h1, h2⟩ := h
    rw [List.cons_append, wfKs]
    exact ⟨v, vs ++ us', rfl, h1, wfKs_app h2 h'⟩

theorem wfK_cells {k : CK} {v : SV} (h : wfK k v) : v.cells = [v] := by
  cases k <;> rw [wfK] at h
  · obtain ⟨n, rfl, _⟩ := h; rfl
  · obtain ⟨n, rfl⟩ := h; rfl
  · obtain ⟨n, rfl, _⟩ := h; rfl
  · exact h.elim
  · exact h.elim
  · obtain ⟨n, rfl, _⟩ := h; rfl
  · exact h.elim

theorem wfK_kOk {k : CK} {v : SV} (h : wfK k v) : kOk k v := by
  cases k <;> rw [wfK] at h
  · obtain ⟨n, rfl, _⟩ := h; exact ⟨n, rfl⟩
  · obtain ⟨n, rfl⟩ := h; exact .inr (.inr ⟨n, rfl⟩)
  · obtain ⟨n, rfl, _⟩ := h; exact ⟨n, rfl⟩
  · exact h.elim
  · exact h.elim
  · obtain ⟨n, rfl, _⟩ := h; exact .inr ⟨_, rfl⟩
  · exact h.elim

theorem wfKs_get : ∀ {ks : List CK} {us : List SV}, wfKs ks us → ∀ j, j < ks.length → wfK (ks.getD j .other) (us.getD j .any)
  | [], us, h, j, hj => by simp at hj
  | k :: ks, us, h, j, hj => by
    rw [wfKs] at h
    obtain ⟨v, vs, rfl, h1, h2⟩ := h
    cases j with
    | zero => exact h1
    | succ j => simpa using wfKs_get h2 j (by simpa using hj)

theorem elOf_cells {ks : List CK} {us : List SV} (h : wfKs ks us) : (elOf us).cells = us := by
  unfold elOf
  split
  · rename_i u
    cases ks with
    | nil => rw [wfKs] at h; cases h
    | cons k ks =>
      rw [wfKs] at h
      obtain ⟨v, vs, e, h1, h2⟩ := h
      cases e
      exact wfK_cells h1
  · rfl

theorem wfKs_shOk {ks : List CK} {us : List SV} (h : wfKs ks us) : shOk ks (elOf us) := by
  refine ⟨by rw [elOf_cells h, wfKs_length h], fun j hj => ?_⟩
  rw [elOf_cells h]
  exact wfK_kOk (wfKs_get h j hj)

/-- The kinds of a type's cells. -/
def fieldKs (P : Program) (g : TypeId → Option (List CK)) : List Field → List CK → Option (List CK)
  | [], acc => some acc
  | f :: r, acc => match g f.type with
    | some ks => match Nat.beq f.offset acc.length && Nat.beq (P.cellsOf f.type) ks.length with
      | true => fieldKs P g r (acc ++ ks)
      | false => none
    | none => none
def repK (ks : List CK) : Nat → List CK
  | 0 => []
  | n + 1 => repK ks n ++ ks
def kindsOf (P : Program) : Nat → TypeId → Option (List CK)
  | 0, _ => none
  | n + 1, t => match P.underlying t with
    | some d => match d with
      | .bool => some [.bool]
      | .int k => some [.int k]
      | .string => some [.str]
      | .slice e => match kindsOf P n e with
        | some ks => match Nat.beq (P.cellsOf e) ks.length && Nat.blt 0 ks.length with
          | true => some [.sl ks]
          | false => none
        | none => none
      | .struct fs => match fieldKs P (kindsOf P n) fs.toList [] with
        | some ks => match Nat.beq (P.cellsOf t) ks.length with
          | true => some ks
          | false => none
        | none => none
      | .array m e => match kindsOf P n e with
        | some ks => match Nat.beq (P.cellsOf e) ks.length && Nat.beq (P.cellsOf t) (m * ks.length) with
          | true => some (repK ks m)
          | false => none
        | none => none
      | _ => none
    | none => none

structure Opened (I : Nat → Prop) (w : World) (ks : List CK) (cs : List Value) (us : List SV) : Prop where
  len : cs.length = ks.length
  conc : ∀ j, Conc I w (cs.getD j undef) (us.getD j .any)
  wf : wfKs ks us

theorem Opened.app {I : Nat → Prop} {w : World} {ks ks' : List CK} {cs cs' : List Value} {us us' : List SV} (h : Opened I w ks cs us) (h' : Opened I w ks' cs' us') : Opened I w (ks ++ ks') (cs ++ cs') (us ++ us') := by
  refine ⟨by simp [h.len, h'.len], fun j => ?_, wfKs_app h.wf h'.wf⟩
  have e := wfKs_length h.wf
  have e2 := h.len
  by_cases hj : j < ks.length
  · have := h.conc j
    simp only [List.getD_eq_getElem?_getD] at this ⊢
    rw [List.getElem?_append_left (by omega), List.getElem?_append_left (by omega)]
    exact this
  · have := h'.conc (j - ks.length)
    simp only [List.getD_eq_getElem?_getD] at this ⊢
    rw [List.getElem?_append_right (by omega), List.getElem?_append_right (by omega), e, e2]
    exact this

theorem Opened.one {I : Nat → Prop} {w : World} {k : CK} {x : Value} {u : SV} (h : Conc I w x u) (hw : wfK k u) : Opened I w [k] [x] [u] := by
  refine ⟨rfl, fun j => ?_, ?_⟩
  · cases j with
    | zero => exact h
    | succ j => simpa using Conc.any _
  · rw [wfKs]; exact ⟨u, [], rfl, hw, by rw [wfKs]⟩

theorem Opened.nil {I : Nat → Prop} {w : World} : Opened I w [] [] [] := ⟨rfl, fun j => by simpa using Conc.any _, by rw [wfKs]⟩

theorem open_fields {P : Program} {I : Nat → Prop} {w : World} {g : TypeId → Option (List CK)} {cs : List Value} : ∀ (fs : List Field) (acc ks : List CK) (us0 : List SV), fieldKs P g fs acc = some ks → cs.length = ks.length →
    Opened I w acc (cs.take acc.length) us0 → (∀ f, f ∈ fs → ∀ kf, g f.type = some kf → ∃ us, Opened I w kf ((cs.drop f.offset).take (P.cellsOf f.type)) us) → ∃ us, Opened I w ks cs us
  | [], acc, ks, us0, h, hl, h0, _ => by
    simp only [fieldKs, Option.some.injEq] at h
    subst h
    rw [List.take_of_length_le (by omega)] at h0
    exact ⟨us0, h0⟩
  | f :: r, acc, ks, us0, h, hl, h0, hf => by
    simp only [fieldKs] at h
    split at h
    · rename_i kf hkf
      split at h
      · rename_i hb
        simp only [Bool.and_eq_true] at hb
        have e1 := Nat.eq_of_beq_eq_true hb.1
        have e2 := Nat.eq_of_beq_eq_true hb.2
        obtain ⟨us1, h1⟩ := hf f (by simp) kf hkf
        rw [e1, e2] at h1
        refine open_fields r (acc ++ kf) ks (us0 ++ us1) h hl ?_ (fun f' hf' => hf f' (by simp [hf']))
        have := h0.app h1
        rw [List.length_append, List.take_add]
        exact this
      · cases h
    · cases h

theorem open_rep {I : Nat → Prop} {w : World} {cs : List Value} {ks : List CK} : ∀ (m : Nat), (∀ i, i < m → ∃ us, Opened I w ks ((cs.drop (i * ks.length)).take ks.length) us) → ∃ us, Opened I w (repK ks m) (cs.take (m * ks.length)) us
  | 0, _ => ⟨[], by simpa [repK] using Opened.nil⟩
  | m + 1, h => by
    obtain ⟨us, h0⟩ := open_rep m (fun i hi => h i (by omega))
    obtain ⟨us1, h1⟩ := h m (by omega)
    refine ⟨us ++ us1, ?_⟩
    rw [repK, Nat.succ_mul, List.take_add]
    exact h0.app h1

theorem repK_length (ks : List CK) : ∀ m, (repK ks m).length = m * ks.length
  | 0 => by simp [repK]
  | m + 1 => by rw [repK, List.length_append, repK_length ks m, Nat.succ_mul]

theorem below_cell {w : World} {a : Addr} {x : Value} (h : w.cell? a = some x) : a.block < w.heap.size ∧ a.spot = none := by
  unfold World.cell? at h
  split at h
  · rename_i c e r hb
    split at h
    · cases h
    · rename_i hs
      refine ⟨?_, by simpa using hs⟩
      exact (Array.getElem?_eq_some_iff.1 hb).1
  · cases h

theorem mapM_all {α β : Type} {f : α → Option β} : ∀ {l : List α} {r : List β}, l.mapM f = some r → ∀ (i : Nat) (x : α), l[i]? = some x → ∃ y, r[i]? = some y ∧ f x = some y
  | [], r, h, i, x, hx => by simp at hx
  | a :: l, r, h, i, x, hx => by
    rw [List.mapM_cons] at h
    cases ha : f a with
    | none => simp [ha] at h
    | some b =>
      cases has : l.mapM f with
      | none => simp [ha, has] at h
      | some bs =>
        simp [ha, has] at h
        subst h
        cases i with
        | zero => simp at hx; subst hx; exact ⟨b, rfl, ha⟩
        | succ i => simpa using mapM_all has i x (by simpa using hx)

section
variable {H : Type} {enc : TypeId × Value → H} {P : Program} {w : World} {base : Nat} {spare : Nat → Bool} {held : Bool}

theorem weightsAll_mem' {e : TypeId} : ∀ {l : List (DataW H)} {d : DataW H}, d ∈ l → ∀ n ∈ d.weights P e, n ∈ DataW.weightsAll P e l
  | d0 :: l, d, h, n, hn => by
    simp only [DataW.weightsAll, List.mem_append]
    rcases List.mem_cons.1 h with rfl | h
    · exact .inl hn
    · exact .inr (weightsAll_mem' h n hn)

/-- What may be read of an argument is one of the abstract values. -/
theorem open_cells : ∀ (n : Nat) {t : TypeId} {ks : List CK} {fuel : Nat} {cs : List Value} {x : DataW H × List MemPlace}, kindsOf P n t = some ks → DataW.trod enc P w base spare held fuel t cs = some x →
    (∀ m ∈ x.1.weights P t, m ≤ reachBytes) → ∃ us, Opened (fun b => b < w.heap.size) w ks cs us
  | 0, t, ks, fuel, cs, x, hk, _, _ => by cases hk
  | n + 1, t, ks, fuel, cs, x, hk, h, hz => by
    unfold kindsOf at hk
    split at hk
    · rename_i d ht
      split at hk
      · cases hk
        obtain ⟨b, rfl, _⟩ := DataW.trod_bool ht h
        exact ⟨[.bool b], .one (.bool b) (by rw [wfK]; exact ⟨b, rfl⟩)⟩
      · cases hk
        rename_i k
        obtain ⟨m, rfl, _, hw⟩ := DataW.trod_int ht h
        simp only [Lit.wf, Bool.and_eq_true, decide_eq_true_eq] at hw
        exact ⟨[.int k m], .one (.int _ _) (by rw [wfK]; exact ⟨m, rfl, hw⟩)⟩
      · cases hk
        obtain ⟨s, rfl, hx, hw⟩ := DataW.trod_string ht h
        have hw := hz s.data.toList.length (by rw [hx]; simp [DataW.weights])
        exact ⟨[.str s.data.toList], .one (.str _ _ rfl) (by rw [wfK]; exact ⟨_, rfl, hw⟩)⟩
      · rename_i e
        split at hk
        · rename_i ks' hke
          split at hk
          · rename_i hb
            cases hk
            simp only [Bool.and_eq_true] at hb
            have e1 := Nat.eq_of_beq_eq_true hb.1
            have e2 : 0 < ks'.length := (by have := hb.2; rw [Nat.blt_eq] at this; exact this)
            rcases DataW.trod_slice ht h with ⟨rfl, _⟩ | ⟨a, len, cap, elems, rest, m, _, rfl, hx, hba, hlc, hcm, hlen, hel, _⟩
            · exact ⟨[.sl ks' []], .one (.sl0 none 0 ks') (by rw [wfK]; exact ⟨[], rfl, by simp, by simp⟩)⟩
            · rcases Nat.eq_zero_or_pos len with rfl | hpos
              · exact ⟨[.sl ks' []], .one (.sl0 _ _ ks') (by rw [wfK]; exact ⟨[], rfl, by simp, by simp⟩)⟩
              · have each : ∀ i, i < len → ∃ c us, w.cells? base (a.add (i * P.cellsOf e)) (P.cellsOf e) = some c ∧ Opened (fun b => b < w.heap.size) w ks' c us := by
                  intro i hi
                  have h1 := hel i hi
                  rw [List.getElem?_eq_getElem (by omega), Option.bind_eq_some_iff] at h1
                  obtain ⟨c, hc, hy⟩ := h1
                  obtain ⟨us, hus⟩ := open_cells n hke hy (fun m hm => hz m (by
                    rw [hx]
                    simp only [DataW.weights, ht, List.mem_cons, List.mem_append]
                    exact .inr (.inl (weightsAll_mem' (List.mem_map.2 ⟨_, List.getElem_mem _, rfl⟩) m hm))))
                  exact ⟨c, us, hc, hus⟩
                have cell : ∀ i, i < len → ∀ c, w.cells? base (a.add (i * P.cellsOf e)) (P.cellsOf e) = some c → ∀ j, j < ks'.length → w.cell? ((a.add (i * P.cellsOf e)).add j) = some (c.getD j undef) := by
                  intro i hi c hc j hj
                  have h3 := World.cells?_some hc
                  have h4 := h3.2.2 j (by omega)
                  have h5 := h3.2.1
                  rw [h4, List.getD_eq_getElem?_getD, List.getElem?_eq_getElem (by omega)]
                  rfl
                have hsp : a.block < w.heap.size ∧ a.spot = none := by
                  obtain ⟨c, us, hc, _⟩ := each 0 hpos
                  have h4 := cell 0 hpos c hc 0 e2
                  simp only [Nat.zero_mul, Addr.add, if_true] at h4
                  exact below_cell h4
                have hav : ∀ k, a.add k = ⟨a.block, a.off + k, none⟩ := by
                  intro k
                  obtain ⟨b, off, sp⟩ := a
                  simp only at hsp
                  rw [hsp.2]
                  unfold Addr.add
                  split <;> simp_all
                obtain ⟨cf, hcf⟩ : ∃ cf : Nat → List Value, ∀ i, i < len → w.cells? base (a.add (i * P.cellsOf e)) (P.cellsOf e) = some (cf i) :=
                  ⟨fun i => if hi : i < len then (each i hi).choose else [], fun i hi => by simp only [hi, dif_pos]; exact (each i hi).choose_spec.choose_spec.1⟩
                have each' : ∀ i, i < len → ∃ us, Opened (fun b => b < w.heap.size) w ks' (cf i) us := by
                  intro i hi
                  obtain ⟨c, us, hc, hus⟩ := each i hi
                  rw [hcf i hi] at hc
                  cases hc
                  exact ⟨us, hus⟩
                obtain ⟨uf, huf⟩ : ∃ uf : Nat → List SV, ∀ i, i < len → Opened (fun b => b < w.heap.size) w ks' (cf i) (uf i) :=
                  ⟨fun i => if hi : i < len then (each' i hi).choose else [], fun i hi => by simp only [hi, dif_pos]; exact (each' i hi).choose_spec⟩
                let L : List (List SV) := (List.range len).map uf
                have hLl : (L.map elOf).length = len := by simp [L]
                have hLg : ∀ i, i < len → (L.map elOf).getD i .any = elOf (uf i) := by
                  intro i hi
                  simp [L, List.getD_eq_getElem?_getD, hi]
                have hwf : ∀ us, us ∈ L → wfKs ks' us := by
                  intro us hus
                  simp only [L, List.mem_map, List.mem_range] at hus
                  obtain ⟨i, hi, rfl⟩ := hus
                  exact (huf i hi).wf
                refine ⟨[.sl ks' (L.map elOf)], .one ?_ (by rw [wfK]; exact ⟨L, rfl, by simp [L]; omega, hwf⟩)⟩
                have ha : a = ⟨a.block, a.off, none⟩ := by have := hav 0; simpa [Addr.add] using this
                have key : Conc (fun b => b < w.heap.size) w (.slice (some ⟨a.block, a.off, none⟩) (L.map elOf).length cap) (.sl ks' (L.map elOf)) := by
                  refine .sl a.block a.off cap ks' (L.map elOf) (fun i j => (cf i).getD j undef) hsp.1 (by omega) (fun e he => ?_) (fun i j hi hj => ?_) (fun i j hi hj => ?_)
                  · obtain ⟨us, hus, rfl⟩ := List.mem_map.1 he
                    exact wfKs_shOk (hwf us hus)
                  · rw [hLl] at hi
                    have := cell i hi (cf i) (hcf i hi) j hj
                    rw [hav, e1] at this
                    unfold Addr.add at this
                    split at this
                    · rename_i h0; subst h0; simpa using this
                    · simpa using this
                  · rw [hLl] at hi
                    unfold elCell
                    rw [hLg i hi, elOf_cells (huf i hi).wf]
                    exact (huf i hi).conc j
                rw [hLl, ← ha] at key
                exact key
          · cases hk
        · cases hk
      · rename_i fs
        split at hk
        · rename_i ks' hke
          split at hk
          · rename_i hb
            cases hk
            obtain ⟨xs, m, _, hx, hl, hxl, hf⟩ := DataW.trod_struct ht h
            refine open_fields fs.toList [] ks [] hke (by rw [hl]; exact Nat.eq_of_beq_eq_true hb) (by simp only [List.length_nil, List.take_zero]; exact Opened.nil) (fun f hf' kf hkf => ?_)
            obtain ⟨i, hi, hget⟩ := List.mem_iff_getElem.1 hf'
            have hfi : fs[i]? = some f := by
              rw [← Array.getElem?_toList, List.getElem?_eq_getElem hi, hget]
            have := hf i f hfi
            have hlt : i < xs.length := by simp at hi; omega
            rw [List.getElem?_eq_getElem hlt] at this
            refine open_cells n hkf this (fun m hm => hz m ?_)
            rw [hx]
            simp only [DataW.weights, ht]
            refine DataW.weights_mem_each (j := i) (t := f.type) (d := xs[i].1) ?_ ?_ m hm
            · rw [List.getElem?_map, Array.getElem?_toList, hfi]; rfl
            · rw [List.getElem?_map, List.getElem?_eq_getElem hlt]; rfl
          · cases hk
        · cases hk
      · rename_i m e
        split at hk
        · rename_i ks' hke
          split at hk
          · rename_i hb
            cases hk
            simp only [Bool.and_eq_true] at hb
            have e1 := Nat.eq_of_beq_eq_true hb.1
            have e2 := Nat.eq_of_beq_eq_true hb.2
            cases fuel with
            | zero => simp [DataW.trod] at h
            | succ fuel =>
              unfold DataW.trod at h
              rw [ht] at h
              simp only at h
              split at h
              · rename_i hl
                rw [Option.map_eq_some_iff] at h
                obtain ⟨xs, hxs, hx⟩ := h
                have := open_rep (I := fun b => b < w.heap.size) (w := w) (cs := cs) (ks := ks') m (fun i hi => by
                  obtain ⟨y, hy, hy2⟩ := mapM_all hxs i i (by simp [hi])
                  rw [e1] at hy2
                  refine open_cells n hke hy2 (fun m hm => hz m ?_)
                  rw [← hx]
                  simp only [DataW.weights, ht]
                  exact weightsAll_mem' (List.mem_map.2 ⟨y, List.mem_of_getElem? hy, rfl⟩) m hm)
                obtain ⟨us, hus⟩ := this
                refine ⟨us, ?_⟩
                rw [List.take_of_length_le (by omega)] at hus
                exact hus
              · cases h
          · cases hk
        · cases hk
      · cases hk
    · cases hk

/-- Is a type one of several cells? -/
def aggT (P : Program) (t : TypeId) : Bool :=
  match P.underlying t with
  | some (.struct _) => true
  | some (.array _ _) => true
  | _ => false

def topSV : Bool → List SV → SV
  | true, us => .agg us
  | false, us => us.headD .any

theorem open_arg {n : Nat} {t : TypeId} {v : Value} {ks : List CK} {b0 : Nat} {d : DataW H} {ps : List MemPlace} (hk : kindsOf P n t = some ks) (hv : Value.okWide P w .any b0 t v) (h : DataW.Trod enc P w base spare held t v d ps) (hz : ∀ m ∈ d.weights P t, m ≤ reachBytes) :
    ∃ us, wfKs ks us ∧ Conc (fun b => b < w.heap.size) w v (topSV (aggT P t) us) := by
  obtain ⟨fuel, h⟩ := h
  obtain ⟨us, hus⟩ := open_cells n hk h hz
  refine ⟨us, hus.wf, ?_⟩
  cases ha : aggT P t with
  | true =>
    have : ∃ cs, v = .agg cs := by
      unfold aggT at ha
      unfold Value.okWide at hv
      split at ha
      · rename_i fs hu
        rw [hu] at hv
        obtain ⟨cs, rfl, _⟩ := hv
        exact ⟨cs, rfl⟩
      · rename_i m e hu
        rw [hu] at hv
        obtain ⟨cs, rfl, _⟩ := hv
        exact ⟨cs, rfl⟩
      · cases ha
    obtain ⟨cs, rfl⟩ := this
    refine .agg _ _ ?_ (fun i => ?_)
    · have := hus.len
      simp only [Value.cells] at this
      rw [wfKs_length hus.wf, ← this, Array.length_toList]
    · have := hus.conc i
      rw [Array.getD_eq_getD_getElem?]
      rw [List.getD_eq_getElem?_getD] at this
      simpa [Value.cells] using this
  | false =>
    have hc : v.cells = #[v] := by
      unfold kindsOf at hk
      cases n with
      | zero => cases hk
      | succ n =>
        unfold aggT at ha
        simp only at hk
        split at hk
        · rename_i dd ht
          split at hk
          · obtain ⟨b, rfl⟩ := okWide_bool ht hv; rfl
          · obtain ⟨b, rfl⟩ := okWide_int ht hv; rfl
          · obtain ⟨b, rfl⟩ := okWide_string ht hv; rfl
          · obtain ⟨a, b, c, rfl⟩ := okWide_slice ht hv; rfl
          · rw [ht] at ha; cases ha
          · rw [ht] at ha; cases ha
          · cases hk
        · cases hk
    have := hus.conc 0
    rw [hc] at this
    cases us with
    | nil => exact .any _
    | cons u us => simpa [topSV] using this

/-- What a function may be given: by its parameters. -/
def argsWf : List (Bool × List CK) → List SV → Prop
  | [], us => us = []
  | (a, ks) :: r, us => ∃ cs vs, us = topSV a cs :: vs ∧ wfKs ks cs ∧ argsWf r vs

def argsB (P : Program) (n : Nat) : List TypeId → List (Bool × List CK) → Bool
  | [], [] => true
  | t :: ts, (a, ks) :: r => (match kindsOf P n t with
    | some ks' => cksEq ks' ks
    | none => false) && (aggT P t == a) && P.readableRec t && decide (t < P.types.size) && argsB P n ts r
  | _, _ => false

mutual
theorem ckEq_ok : ∀ {a b : CK}, ckEq a b = true → a = b
  | .int k, b, h => by cases b <;> simp [ckEq] at h; rw [h]
  | .bool, b, h => by cases b <;> simp [ckEq] at h; rfl
  | .str, b, h => by cases b <;> simp [ckEq] at h; rfl
  | .flt, b, h => by cases b <;> simp [ckEq] at h; rfl
  | .cpx, b, h => by cases b <;> simp [ckEq] at h; rfl
  | .other, b, h => by cases b <;> simp [ckEq] at h; rfl
  | .sl ks, b, h => by
    cases b <;> simp [ckEq] at h
    rw [cksEq_ok' h]
theorem cksEq_ok' : ∀ {a b : List CK}, cksEq a b = true → a = b
  | [], b, h => by cases b <;> simp [cksEq] at h; rfl
  | k :: ks, b, h => by
    cases b <;> simp [cksEq] at h
    rw [ckEq_ok h.1, cksEq_ok' h.2]
end

theorem open_args {n : Nat} {b0 : Nat} : ∀ (ts : List TypeId) (tks : List (Bool × List CK)) (vs : List Value) (ds : List (DataW H)) (ps : List MemPlace), argsB P n ts tks = true →
    (∀ (j : Nat) t v, ts[j]? = some t → vs[j]? = some v → Value.okWide P w .any b0 t v) → DataW.TrodAll enc P w base spare held ts vs ds ps → (∀ m ∈ DataW.weightsEach P ts ds, m ≤ reachBytes) →
    ∃ us, argsWf tks us ∧ us.length = vs.length ∧ ds.length = ts.length ∧ ∀ i, Conc (fun b => b < w.heap.size) w (vs.getD i undef) (us.getD i .any)
  | [], tks, vs, ds, ps, hb, hv, h, _ => by
    cases tks with
    | cons => simp [argsB] at hb
    | nil =>
      obtain ⟨rfl, rfl, rfl⟩ := trodAll_nil h
      exact ⟨[], rfl, rfl, rfl, fun i => by simpa using Conc.any _⟩
  | t :: ts, tks, vs, ds, ps, hb, hv, h, hz => by
    cases tks with
    | nil => simp [argsB] at hb
    | cons tk tks =>
      obtain ⟨a, ks⟩ := tk
      simp only [argsB, Bool.and_eq_true] at hb
      obtain ⟨⟨⟨⟨h1, h2⟩, _⟩, _⟩, h5⟩ := hb
      obtain ⟨v, vs', d, ds', p, q, rfl, rfl, rfl, h3, h4⟩ := trodAll_cons h
      obtain ⟨us, q1, q2, q2b, q3⟩ := open_args ts tks vs' ds' q h5 (fun j t' v' hj hj' => hv (j + 1) t' v' (by simpa using hj) (by simpa using hj')) h4 (fun m hm => hz m (by simp only [DataW.weightsEach, List.mem_append]; exact .inr hm))
      split at h1
      · rename_i ks' hk
        have := cksEq_ok' h1
        subst this
        obtain ⟨cs, q4, q5⟩ := open_arg hk (hv 0 t v rfl rfl) h3 (fun m hm => hz m (by simp only [DataW.weightsEach, List.mem_append]; exact .inl hm))
        have h2 := eq_of_beq h2
        rw [h2] at q5
        refine ⟨topSV a cs :: us, ⟨cs, us, rfl, q4, q1⟩, by simp [q2], by simp [q2b], fun i => ?_⟩
        cases i with
        | zero => exact q5
        | succ i => simpa using q3 i
      · cases h1

theorem trodAll_below {n : Nat} {W W' : World} (hl : laidOutB P = true) (bel : Below W.heap.size W W') : ∀ (ts : List TypeId) (tks : List (Bool × List CK)) (vs : List Value) (ds : List (DataW H)) (ps : List MemPlace), argsB P n ts tks = true →
    DataW.TrodAll enc P W 0 (fun _ => true) true ts vs ds ps → (∀ x, x ∈ ps → x.block < W.heap.size) → DataW.TrodAll enc P W' 0 (fun b => decide (b < W.heap.size)) true ts vs ds ps
  | [], tks, vs, ds, ps, hb, h, hlt => by
    obtain ⟨rfl, rfl, rfl⟩ := trodAll_nil h
    exact trodAll_mk0
  | t :: ts, tks, vs, ds, ps, hb, h, hlt => by
    cases tks with
    | nil => simp [argsB] at hb
    | cons tk tks =>
      obtain ⟨a, ks⟩ := tk
      simp only [argsB, Bool.and_eq_true, decide_eq_true_eq] at hb
      obtain ⟨⟨⟨⟨_, _⟩, h3⟩, h4⟩, h5⟩ := hb
      obtain ⟨v, vs', d, ds', p, q, rfl, rfl, rfl, h6, h7⟩ := trodAll_cons h
      exact ⟨p, q, Below.trod hl h3 h4 h6 bel (fun x hx => hlt x (by simp [hx])), trodAll_below hl bel ts tks vs' ds' q h5 h7 (fun x hx => hlt x (by simp [hx])), rfl⟩
end

theorem below_of {W W' : World} (h : Fr W.heap.size (fun _ => False) W W') : Below W.heap.size W W' :=
  ⟨h.os, h.tape, h.output, h.size, fun k hk => h.block k hk (fun h => h)⟩

/-- A law's row: of all arguments that there may be, the function answers 'true'; so the statement's lifted form. -/
theorem law_lifted {H : Type} {enc : TypeId × Value → H} {a : Assume} {C : Checked} {os : Os} {f : FuncId} {fn : Func} {s : ChangeSpec} {conds : List PathCond} {tks : List (Bool × List CK)} [hL : Laid C.prog] (hld : ∀ w, hL.ok w) (n : Nat) (rt : TypeId)
    (own : ownKnob C.prog.godebug = none) (started : os.Started) (noInit : C.prog.inits.idxOf? f = none) (hfn : C.prog.funcs[f]? = some fn) (laid : laidOutB C.prog = true)
    (hks : argsB C.prog n fn.params.toList tks = true) (hres : fn.resultTypes = #[rt]) (hrt : C.prog.underlying rt = some .bool) (hvars : s.vars = [])
    (hspec : ∀ ds : List (DataW H), ds.length = fn.params.toList.length → (s.fn H ds).results = [.lit (.bool true)] ∧ (s.fn H ds).args = ds ∧ (s.fn H ds).vars = [])
    (witness : ∃ (w : World) (tape : Tape) (i : Input), w.os = os ∧ (w.forCall tape i).Shaped C.prog ∧ i.vars = [] ∧ Input.okWide C.prog (w.forCall tape i) .any w.heap.size f i ∧
      s.pre6 enc C.prog fn conds false (w.forCall tape i).memory i.args ∧ a.holds C.prog (lone (Frame.enter C.prog f i.args .normal) [] (w.forCall tape i)))
    (hok : ∀ us, argsWf tks us → FnOK C.prog f us (.bool true)) :
    ReturnsInHanded a C os f .any (s.pre6 enc C.prog fn conds false) (s.post enc C.prog fn false true false false) := by
  refine returnsInHanded_of_change_shaped own started noInit hfn witness ?_
  intro W base args ds gs before hval hW hcnd hsz _ _
  have hW' := hW
  obtain ⟨p, q, hA, hV, rfl, hfz, hnd⟩ := hW
  rw [hvars] at hV
  obtain ⟨rfl, rfl⟩ := trodVars_none hV
  have hlt : ∀ x ∈ p, x.block < W.heap.size := fun x hx => hW'.lt x (by simp [hx])
  have hvt : s.plain.varTypes C.prog = [] := by
    have : s.plain.vars = [] := hvars
    unfold DataSpec.varTypes
    rw [this]; rfl
  rw [hvt, List.append_nil, List.append_nil] at hsz
  obtain ⟨us, h1, h2, h2b, h3⟩ := open_args fn.params.toList tks args.toList ds p hks (fun j t v hj hj' => hval j t v (by simpa using hj) (by simpa using hj')) hA (fun m hm => by simpa using List.all_eq_true.1 hsz m hm)
  refine (hok us h1 (fun b => b < W.heap.size) W args (hld W) (fun b hb => hb) (by simpa using h2.symm) (fun i => ?_)).mono fun e W' ⟨x, I', he, hfr, _, _, hx⟩ => ?_
  · have := h3 i
    rw [Array.getD_eq_getD_getElem?]
    rw [List.getD_eq_getElem?_getD, Array.getElem?_toList] at this
    exact .inl this
  · subst he
    have hx : x = .bool true := by cases hx.conc rfl; rfl
    subst hx
    have bel := below_of hfr
    obtain ⟨e1, e2, e3⟩ := hspec (ds ++ []) (by simpa using h2b)
    simp only [List.append_nil] at hW' e1 e2 e3
    refine ⟨_, rfl, ds, [], p, [], p, [], hW', ?_, ?_, ?_, bel.frame _, fun h => by cases h⟩
    · rw [List.append_nil, e1, hres]
      exact trodAll_mk1 (shut_bool hrt true)
    · rw [List.append_nil, e2]
      exact trodAll_below laid bel _ _ _ _ _ hks hA hlt
    · rw [List.append_nil, e3, hvars]
      exact rfl
end Go.Rx

