/- The framework, part 4: what an operation does to a state. -/
import Derived.Test.YtkmiakgpkgmcbaaFw3
namespace Go.Rx
set_option linter.unusedSectionVars false
open Go.RowKit

/-! ### The tables -/
def TkOk (P : Program) : TypeDesc → TK → Prop
  | .int k, .int k' => k = k'
  | .bool, .bool => True
  | .string, .str => True
  | .float k, .flt => k = .f64
  | .complex k, .cpx => k = .f64
  | .struct fs, .struct fl => fs.size = fl.length ∧ ∀ (i : Nat) (f : Field), fs[i]? = some f → fl[i]? = some (f.offset, f.type) ∧ ∃ inf, P.info? f.type = some inf ∧ inf.size ≠ 0
  | .array n e, .arr n' e' => n = n' ∧ e = e'
  | .slice e, .sl e' => e = e'
  | .pointer e, .ptr e' => e = e'
  | .map k e, .mp k' e' => k = k' ∧ e = e'
  | .func _ _ _, .fn => True
  | .tuple _, .tup => True
  | _, _ => False

def CkOk (P : Program) (t : Nat) : CK → Prop
  | .int k => P.underlying t = some (.int k)
  | .bool => P.underlying t = some .bool
  | .str => P.underlying t = some .string
  | _ => False

/-- The zero value of a type of one plain cell. -/
def zVal : List SV → Option Value
  | [.int k n] => some (.int k n)
  | [.ff] => some (.bool false)
  | [.str []] => some (.string ⟨#[]⟩)
  | _ => none

structure TyOk (P : Program) (t : Nat) (L : TyL) : Prop where
  info : ∃ inf z, P.info? t = some inf ∧ inf.size = L.ks.length ∧ inf.bytes = L.bytes ∧ inf.zero = some z ∧ z.cells.size = L.ks.length ∧ L.zero.length = L.ks.length ∧
    ∀ (I : Nat → Prop) (w : World) (i : Nat), Conc I w (z.cells.getD i undef) (L.zero.getD i .any)
  desc : ∃ d, P.underlying t = some d ∧ TkOk P d L.k
  one : L.k.agg = false → L.ks.length = 1
  eq : L.eq = true → ∃ fs, P.underlying t = some (.struct fs) ∧ P.stoodInHeld t = false ∧ P.eqGuardType P.depth t = false ∧ fs.size = L.ks.length ∧
    ∀ (i : Nat) (f : Field), fs[i]? = some f → f.name ≠ "_" ∧ f.offset = i ∧ CkOk P f.type (L.ks.getD i .other)
  zv : ∀ x, zVal L.zero = some x → ∃ inf, P.info? t = some inf ∧ inf.zero = some x

/-- A map that is lent. -/
def MpC (I : Nat → Prop) (w : World) (y : Value) (v : SV) : Prop := ∃ ty kk vk l b ck, v = .own ty [kk, vk, .int .i64] l ∧ y = .map (some b) ∧ MapR I w b kk vk l ck ∧ b < w.heap.size ∧ ¬ I b
/-- A pointer that is lent: what it leads to may be read. -/
def LpOK (I : Nat → Prop) (w : World) (x : Value) (v : SV) : Prop := ∃ t cs b ys, v = .lp t cs ∧ x = .pointer (some ⟨b, 0, none⟩) ∧ w.heap[b]? = some (.cells ys t (0, 0)) ∧ ys.size = cs.length ∧ (∀ i, Conc I w (ys.getD i undef) (cs.getD i .any) ∨ MpC I w (ys.getD i undef) (cs.getD i .any)) ∧ b < w.heap.size ∧ ¬ I b
def ArgOK (I : Nat → Prop) (w : World) (x : Value) (v : SV) : Prop := Conc I w x v ∨ LpOK I w x v
theorem ArgOK.conc {I : Nat → Prop} {w : World} {x : Value} {v : SV} (h : ArgOK I w x v) (hv : closed v = true) : Conc I w x v := by
  rcases h with h | ⟨t, cs, b, ys, rfl, _⟩
  · exact h
  · cases hv

/-- A slice that is the caller's own from now on: in memory that there was not ahead of the call. -/
def OwnR (I : Nat → Prop) (n : Nat) (w : World) (x : Value) (e : Nat) (ks : List CK) (l : List SV) : Prop :=
  (∀ v, v ∈ l → shOk ks v) ∧ (((∀ b, x.ownBlock = some b → n ≤ b ∧ b < w.heap.size ∧ ¬ I b) ∧ ∃ xs : List Value, w.ownsRow 0 e ks.length x l.length xs ∧ ∀ i j, i < l.length → j < ks.length → Conc I w (xs.getD (i * ks.length + j) undef) (elCell l i j)) ∨ (l = [] ∧ ∃ ad, x = .slice ad 0 0))
def ownSel (j : Option Nat) (x : Value) : Value :=
  match j with
  | none => x
  | some j => match x with
    | .tuple xs => xs.getD j undef
    | x => x
def ResOK (I : Nat → Prop) (n : Nat) (w : World) (x : Value) (r : SV) : Prop :=
  Conc I w x r ∨ (∃ j e ks l, ownAt r = some (j, e, ks, l) ∧ Conc I w x (ownPut j .any r) ∧ OwnR I n w (ownSel j x) e ks l) ∨ ∃ r0 J, frOf r = some r0 ∧ (∀ b, J b → n ≤ b ∧ b < w.heap.size) ∧ Conc J w x r0
theorem ResOK.conc {I : Nat → Prop} {n : Nat} {w : World} {x : Value} {r : SV} (h : ResOK I n w x r) (hr : ownAt r = none) (hf : frOf r = none := by rfl) : Conc I w x r := by
  rcases h with h | ⟨j, e, ks, l, h1, _⟩ | ⟨r0, J, h1, _⟩
  · exact h
  · rw [hr] at h1; cases h1
  · rw [hf] at h1; cases h1

/-- In whatever memory: called with these, the function hands back this, and leaves what there was as it was. -/
def FnOK (P : Program) [Laid P] (f : Nat) (as : List SV) (r : SV) : Prop :=
  ∀ (I : Nat → Prop) (w : World) (xs : Array Value), Laid.ok P w → (∀ b, I b → b < w.heap.size) → xs.size = as.length → (∀ i, ArgOK I w (xs.getD i undef) (as.getD i .any)) →
    Calls P f xs w fun e w' => ∃ (x : Value) (I' : Nat → Prop), e = .returned x ∧ Fr w.heap.size (fun _ => False) w w' ∧ (∀ b, I b → I' b) ∧ (∀ b, I' b → b < w'.heap.size ∧ (I b ∨ w.heap.size ≤ b)) ∧ ResOK I' w.heap.size w' x r

def FnB (P : Program) (f : Nat) : Prop := ∃ fn, P.funcs[f]? = some fn ∧ fn.body.isNone = false ∧ (fn.name == "runtime.NumGoroutine") = false

/-- In whatever run: called with these, in a memory like this, the function comes to an end of which what is asked holds. -/
def InlOK (P : Program) [Laid P] (f : Nat) (T : List SV → List (Nat × Chunk) → (SV → List (Nat × Chunk) → Prop) → Prop) : Prop :=
  ∀ (B : Nat) (M I0 : Nat → Prop) (G : Nat → Value) (w0 : World) (E : Env) (m : List (Nat × Chunk)) (w : World) (as : List SV) (xs : Array Value) (K : SV → List (Nat × Chunk) → Prop),
    Rel P 0 B M I0 G w0 E ⟨[], m⟩ ⟨#[], []⟩ w → xs.size = as.length → (∀ i, CV E (lkO m) w (xs.getD i undef) (as.getD i .any)) → T as m K →
    Calls P f xs w fun e w' => ∃ (x : Value) (r : SV) (m' : List (Nat × Chunk)) (E' : Env), e = .returned x ∧ Rel P 0 B M I0 G w0 E' ⟨[], m'⟩ ⟨#[], []⟩ w' ∧ CV E' (lkO m') w' x r ∧ K r m'

def obH : Option Prop → Prop
  | none => True
  | some p => p

structure CxOk (P : Program) [Laid P] (cx : Cx) : Prop where
  mixed : P.follows .mixedOrders = true
  ty : ∀ t L, lkO cx.ty t = some L → TyOk P t L
  fb : ∀ f c, lkO cx.fn f = some c → FnB P f
  fn : ∀ f c, lkO cx.fn f = some c → ∀ as, closedAL as = true → obH (c.pre as) → closed (c.res as) = true ∧ FnOK P f as (c.res as)
  ib : ∀ f T, lkO cx.inl f = some T → FnB P f
  inl : ∀ f T, lkO cx.inl f = some T → ∀ off, InlOK P f (T off)

/-! ### Look-ups -/
theorem beqN (a b : Nat) : Nat.beq a b = decide (a = b) := by
  by_cases h : a = b
  · subst h; simp [Nat.beq_refl]
  · rw [decide_eq_false h]
    cases hb : Nat.beq a b with
    | false => rfl
    | true => exact absurd (Nat.eq_of_beq_eq_true hb) h

theorem lkO_cons {α : Type} (k : Nat) (v : α) (r : List (Nat × α)) (n : Nat) : lkO ((k, v) :: r) n = if k = n then some v else lkO r n := by
  conv => lhs; unfold lkO
  rw [beqN]
  by_cases h : k = n <;> simp [h]
theorem lk_cons {α : Type} (d : α) (k : Nat) (v : α) (r : List (Nat × α)) (n : Nat) : lk d ((k, v) :: r) n = if k = n then v else lk d r n := by
  conv => lhs; unfold lk
  rw [beqN]
  by_cases h : k = n <;> simp [h]
theorem lkO_append {α : Type} (a b : List (Nat × α)) (n : Nat) : lkO (a ++ b) n = (match lkO a n with | some v => some v | none => lkO b n) := by
  induction a with
  | nil => simp [lkO]
  | cons x r ih =>
    obtain ⟨k, v⟩ := x
    rw [List.cons_append, lkO_cons, lkO_cons, ih]
    by_cases h : k = n <;> simp [h]

/-! ### Frames -/
theorem put_getD {a : Act} {d : Nat} {v : Value} (hd : d < a.tmps.size) (t : Nat) : (a.put (some d) v).tmps.getD t undef = if d = t then v else a.tmps.getD t undef := by
  simp only [Act.put, Array.getD_eq_getD_getElem?, Array.getElem?_setIfInBounds]
  by_cases h : d = t
  · subst h; simp [hd]
  · simp [h]
theorem put_size {a : Act} {d : Option Nat} {v : Value} : (a.put d v).tmps.size = a.tmps.size := by cases d <;> simp [Act.put]
theorem put_defers' {a : Act} {d : Option Nat} {v : Value} : (a.put d v).defers = a.defers := by cases d <;> rfl

section
variable {cx : Cx} {P : Program} [Laid P] {nt B : Nat} {M I0 : Nat → Prop} {G : Nat → Value} {w0 : World} {E : Env} {s : St} {a : Act} {w : World}

theorem Rel.eval (h : Rel P nt B M I0 G w0 E s a w) (x : Operand) : CV E (lkO s.mem) w (a.eval x) (ev s.tm x) := by
  cases x with
  | tmp t => exact h.tm t
  | const v =>
    refine .conc _ _ ?_
    show Conc _ _ v (ofVal v)
    unfold ofVal
    split
    · exact .int _ _
    · exact .tt
    · exact .ff
    · exact .str _ _ rfl
    · exact .flt _
    · exact .cpx _ _
    · exact .nilsl
    · exact .nilp
    · exact .any _
  | global g => exact .conc _ _ (.any _)
  | func f => exact .conc _ _ (.fn f #[] [] rfl (fun i => by simpa using Conc.any _))

/-- The next state, where slots and memory turn: what is to be shown. -/
theorem Rel.next (h : Rel P nt B M I0 G w0 E s a w) {E' : Env} {w' : World} {d : Option Nat} {x : Value} {v : SV} {ch : List (Nat × Chunk)} (hd : ∀ k, d = some k → k < nt)
    (hfr : Fr B M w w') (hI : ∀ b, E.I b → E'.I b) (hnew : ∀ b, E'.I b → b < w'.heap.size ∧ (I0 b ∨ B ≤ b ∨ M b))
    (hloc : ∀ c b, E'.loc c = some b → b < w'.heap.size ∧ ¬ E'.I b ∧ (B ≤ b ∨ M b ∨ (roK c = true ∧ verOf (lkO (ch ++ s.mem) c) = none))) (hinj : ∀ c c' b, E'.loc c = some b → E'.loc c' = some b → c = c')
    (hm : ∀ x v, CV E (lkO s.mem) w x v → CV E' (lkO (ch ++ s.mem)) w' x v) (hx : CV E' (lkO (ch ++ s.mem)) w' x v)
    (hch : ∀ c, ChR E' (lkO (ch ++ s.mem)) w' c (lkO (ch ++ s.mem) c)) (hg : E'.gv = E.gv := by rfl) : Rel P nt B M I0 G w0 E' (upd s d v ch) (a.put d x) w' := by
  refine ⟨?_, ?_, h.fr.trans hfr, Nat.le_trans h.base hfr.size, fun b hb => hI b (h.i0 b hb), hnew, hloc, hinj, ?_, hch, h.ld, hg.trans h.gv⟩
  · rw [put_defers']; exact h.defers
  · rw [put_size]; exact h.tsize
  · intro t
    cases d with
    | none => exact hm _ _ (h.tm t)
    | some k =>
      have hk : k < a.tmps.size := by rw [h.tsize]; exact hd k rfl
      rw [put_getD hk]
      show CV E' _ w' _ (lk .any ((k, v) :: s.tm) t)
      rw [lk_cons]
      by_cases e : k = t
      · rw [if_pos e, if_pos e]; exact hx
      · rw [if_neg e, if_neg e]; exact hm _ _ (h.tm t)

/-- A piece of memory that is as it was. -/
theorem ChR.mono {E E' : Env} {m m' : Nat → Option Chunk} {w w' : World} {c : Nat} {ch : Option Chunk} (hI : ∀ b, E.I b → E'.I b) (hw : ∀ b, E.I b → w'.heap[b]? = w.heap[b]?)
    (hm : ∀ x v, CV E m w x v → CV E' m' w' x v) (hl : E'.loc c = E.loc c) (hc : E'.cv c = E.cv c) (hb : ∀ b, E.loc c = some b → w'.heap[b]? = w.heap[b]?) (h : ChR E m w c ch) (hg : E'.gv c = E.gv c := by rfl) : ChR E' m' w' c ch := by
  match ch, h with
  | none, _ => trivial
  | some (.box t cs), ⟨b, xs, h1, h2, h3, h4⟩ => exact ⟨b, xs, by rw [hl]; exact h1, by rw [hb b h1]; exact h2, h3, fun i => hm _ _ (h4 i)⟩
  | some (.row v e ks l), ⟨h0, .inr ⟨h1, h2, ad, h3⟩⟩ => exact ⟨h0, .inr ⟨h1, by rw [hl]; exact h2, ad, by rw [hc]; exact h3⟩⟩
  | some (.row v e ks l), ⟨h0, .inl ⟨h1, xs, h2, h3⟩⟩ =>
    exact ⟨h0, .inl <| (by exact ⟨by rw [hl, hc]; exact h1, xs, by rw [hc]; exact ownsRow_same h2 (fun b e => hb b (h1.trans e)), fun i j hi hj => (h3 i j hi hj).mono hI hw⟩)⟩
  | some (.froz v ks l), h => exact (by show Conc _ _ (E'.cv c) _; rw [hc]; exact Conc.mono hI hw h)
  | some (.gh v), h => exact (by show CV _ _ _ (E'.gv c) _; rw [hg]; exact hm _ _ h)
  | some (.mp t kk vk l ck), ⟨b, h1, es, h2, h3, h4⟩ => exact ⟨b, by rw [hl]; exact h1, es, by rw [hb b h1]; exact h2, h3.mono hI hw, h4⟩
  | some (.it d a sn e), ⟨b, db, h1, h2, h3⟩ => exact ⟨b, db, by rw [hl]; exact h1, hm _ _ h2, by rw [hb b h1]; exact h3⟩

/-- The value alone is new. -/
theorem Rel.val (h : Rel P nt B M I0 G w0 E s a w) {d : Option Nat} {x : Value} {v : SV} (hd : ∀ k, d = some k → k < nt) (hx : CV E (lkO s.mem) w x v) :
    Rel P nt B M I0 G w0 E (upd s d v []) (a.put d x) w :=
  h.next hd (Fr.refl _ _ _) (fun _ h => h) h.inew h.loc h.inj (fun _ _ h => h) hx h.ch

/-- A state with the same slots and memory. -/
theorem Rel.congr (h : Rel P nt B M I0 G w0 E s a w) {s' : St} (ht : ∀ t, lk .any s'.tm t = lk .any s.tm t) (hm : ∀ c, lkO s'.mem c = lkO s.mem c) : Rel P nt B M I0 G w0 E s' a w := by
  have e : lkO s'.mem = lkO s.mem := funext hm
  refine ⟨h.defers, h.tsize, h.fr, h.base, h.i0, h.inew, by rw [e]; exact h.loc, h.inj, fun t => ?_, fun c => ?_, h.ld, h.gv⟩
  · rw [e, ht]; exact h.tm t
  · rw [e]; exact h.ch c

/-- A draw. -/
theorem Rel.drew (h : Rel P nt B M I0 G w0 E s a w) : Rel P nt B M I0 G w0 E s a { w with drawn := w.drawn + 1 } := by
  have hf : Fr B M w { w with drawn := w.drawn + 1 } := ⟨rfl, rfl, rfl, Nat.le_refl _, fun _ _ _ => rfl⟩
  have hm : ∀ x v, CV E (lkO s.mem) w x v → CV E (lkO s.mem) { w with drawn := w.drawn + 1 } x v := fun x v hx =>
    CV.mono (E := E) (m := lkO s.mem) (w := w) (fun _ h => h) (fun _ _ => rfl) (fun c t cs b h1 h2 => ⟨⟨t, cs, h1⟩, h2⟩) (hq_of fun _ _ _ h => ⟨rfl, h⟩) (fun c v h => ⟨v, h, Nat.le_refl _, fun _ => ⟨rfl, fun _ h => h⟩⟩) hx
  exact ⟨h.defers, h.tsize, h.fr.trans hf, h.base, h.i0, h.inew, h.loc, h.inj, fun t => hm _ _ (h.tm t), fun c => ChR.mono (E := E) (m := lkO s.mem) (w := w) (fun _ h => h) (fun _ _ => rfl) hm rfl rfl (fun _ _ => rfl) (h.ch c), h.ld, h.gv⟩

/-- A new block. -/
def Env.withBlock (E : Env) (d b : Nat) (x : Value) : Env := { E with loc := fun c => if c = d then some b else E.loc c, cv := fun c => if c = d then x else E.cv c }

theorem heap_push (w : World) (o : Obj) (b : Nat) (h : b < w.heap.size) : (w.alloc o).heap[b]? = w.heap[b]? := Below.heap_alloc w o b h
theorem heap_new (w : World) (o : Obj) : (w.alloc o).heap[w.heap.size]? = some o := by
  show (w.heap.push o)[w.heap.size]? = some o
  simp

/-- .. of a key that names nothing yet. -/
theorem Rel.alloc (h : Rel P nt B M I0 G w0 E s a w) {d kk : Nat} {x : Value} {o : Obj} {c0 : Chunk} (hd : d < nt) (hfree : lkO s.mem kk = none)
    {v : SV} {chs : List (Nat × Chunk)} (hch : chs = [(kk, c0)])
    (hx : ∀ E', E' = E.withBlock kk w.heap.size x → (∀ y u, CV E (lkO s.mem) w y u → CV E' (lkO (chs ++ s.mem)) (w.alloc o) y u) → CV E' (lkO (chs ++ s.mem)) (w.alloc o) x v ∧ ChR E' (lkO (chs ++ s.mem)) (w.alloc o) kk (some c0)) :
    Rel P nt B M I0 G w0 (E.withBlock kk w.heap.size x) (upd s (some d) v chs) (a.put (some d) x) (w.alloc o) := by
  subst hch
  have hsz : (w.alloc o).heap.size = w.heap.size + 1 := World.size_alloc ..
  have hI : ∀ b, E.I b → (w.alloc o).heap[b]? = w.heap[b]? := fun b hb => heap_push w o b (h.inew b hb).1
  have hlk : ∀ c, lkO ([(kk, c0)] ++ s.mem) c = if kk = c then some c0 else lkO s.mem c := fun c => by rw [List.singleton_append, lkO_cons]
  have hm : ∀ y u, CV E (lkO s.mem) w y u → CV (E.withBlock kk w.heap.size x) (lkO ([(kk, c0)] ++ s.mem)) (w.alloc o) y u := fun y u hy => by
    refine CV.mono (E := E) (m := lkO s.mem) (w := w) (fun _ h => h) hI (fun c t cs b h1 h2 => ?_) (hq_of fun c b h1 h2 => ?_) (fun c v h1 => ?_) hy
    · have hc : c ≠ kk := fun e => by subst e; rw [hfree] at h1; cases h1
      exact ⟨⟨t, cs, by rw [hlk, if_neg (Ne.symm hc)]; exact h1⟩, by simp [Env.withBlock, hc, h2]⟩
    · have hc : c ≠ kk := fun e => by subst e; exact isPt_none h1 hfree
      exact ⟨by rw [hlk, if_neg (Ne.symm hc)], by simp [Env.withBlock, hc, h2]⟩
    · have hc : c ≠ kk := fun e => by subst e; rw [hfree] at h1; cases h1
      exact ⟨v, by rw [hlk, if_neg (Ne.symm hc)]; exact h1, Nat.le_refl _, fun _ => ⟨by simp [Env.withBlock, hc], fun b hb => by simpa [Env.withBlock, hc] using hb⟩⟩
  obtain ⟨hx1, hx2⟩ := hx _ rfl hm
  refine h.next (fun k hk => by cases hk; exact hd) ⟨rfl, rfl, rfl, by omega, fun k hk _ => heap_push w o k (Nat.lt_of_lt_of_le hk h.base)⟩ (fun _ h => h)
    (fun b hb => ⟨by have := (h.inew b hb).1; omega, (h.inew b hb).2⟩) ?_ ?_ hm hx1 ?_
  · intro c b hb
    simp only [Env.withBlock] at hb
    by_cases hc : c = kk
    · simp only [hc, if_true, Option.some.injEq] at hb
      subst hb
      exact ⟨by omega, fun hI' => by have := (h.inew _ hI').1; omega, .inl h.base⟩
    · simp only [hc, if_false] at hb
      obtain ⟨h1, h2, h3⟩ := h.loc c b hb
      refine ⟨by omega, h2, ?_⟩
      rw [hlk, if_neg (fun e => hc e.symm)]
      exact h3
  · intro c c' b hb hb'
    simp only [Env.withBlock] at hb hb'
    by_cases hc : c = kk <;> by_cases hc' : c' = kk
    · rw [hc, hc']
    · simp only [hc, if_true, Option.some.injEq] at hb
      simp only [hc', if_false] at hb'
      have := (h.loc c' b hb').1
      omega
    · simp only [hc', if_true, Option.some.injEq] at hb'
      simp only [hc, if_false] at hb
      have := (h.loc c b hb).1
      omega
    · simp only [hc, if_false] at hb
      simp only [hc', if_false] at hb'
      exact h.inj c c' b hb hb'
  · intro c
    rw [hlk]
    by_cases hc : kk = c
    · subst hc; simp only [if_true]; exact hx2
    · rw [if_neg hc]
      have hc' : ¬ c = kk := fun e => hc e.symm
      exact ChR.mono (E := E) (m := lkO s.mem) (w := w) (fun _ h => h) hI hm (by simp [Env.withBlock, hc']) (by simp [Env.withBlock, hc']) (fun b hb => heap_push w o b (h.loc c b hb).1) (h.ch c)
end
end Go.Rx

