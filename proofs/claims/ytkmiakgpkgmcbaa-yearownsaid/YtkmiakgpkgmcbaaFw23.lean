/- The framework, part 23: the tables, looked up in the program. -/
import Derived.Test.YtkmiakgpkgmcbaaFw22
namespace Go.Rx

@[simp] theorem Ob_iff (p : Prop) : Ob p ↔ p := ⟨fun h => h.out, fun h => ⟨h⟩⟩

def zeroB : Value → SV → Bool
  | .int k n, .int k' n' => decide (k = k') && decide (n = n')
  | .bool true, .tt => true
  | .bool false, .ff => true
  | .string s, .str l => decide (s.data.toList = l)
  | .float .f64 b, .flt b' => decide (b = b')
  | .complex .f64 x y, .cpx x' y' => decide (x = x') && decide (y = y')
  | .slice none 0 0, .nilsl => true
  | .pointer none, .nilp => true
  | _, .any => true
  | _, _ => false
def zerosB : List Value → List SV → Bool
  | [], [] => true
  | x :: xs, v :: vs => zeroB x v && zerosB xs vs
  | _, _ => false

theorem zeroB_ok {x : Value} {v : SV} (h : zeroB x v = true) (I : Nat → Prop) (w : World) : Conc I w x v := by
  unfold zeroB at h
  split at h
  · simp only [Bool.and_eq_true, decide_eq_true_eq] at h
    rw [h.1, h.2]; exact .int _ _
  · exact .tt
  · exact .ff
  · simp only [decide_eq_true_eq] at h
    exact .str _ _ h
  · simp only [decide_eq_true_eq] at h
    rw [h]; exact .flt _
  · simp only [Bool.and_eq_true, decide_eq_true_eq] at h
    rw [h.1, h.2]; exact .cpx _ _
  · exact .nilsl
  · exact .nilp
  · exact .any _
  · cases h
theorem zerosB_ok : ∀ {xs : List Value} {vs : List SV}, zerosB xs vs = true → xs.length = vs.length ∧ ∀ (I : Nat → Prop) (w : World) (i : Nat), Conc I w (xs.getD i undef) (vs.getD i .any)
  | [], [], _ => ⟨rfl, fun I w i => by simpa using Conc.any _⟩
  | x :: xs, v :: vs, h => by
    simp only [zerosB, Bool.and_eq_true] at h
    obtain ⟨h1, h2⟩ := zerosB_ok h.2
    refine ⟨by simp [h1], fun I w i => ?_⟩
    cases i with
    | zero => simpa using zeroB_ok h.1 I w
    | succ i => simpa using h2 I w i
  | [], _ :: _, h => by cases h
  | _ :: _, [], h => by cases h

def fieldsB (P : Program) : List Field → List (Nat × Nat) → Bool
  | [], [] => true
  | f :: fs, (o, t) :: r => Nat.beq f.offset o && Nat.beq f.type t && (match P.info? f.type with
    | some inf => Nat.blt 0 inf.size
    | none => false) && fieldsB P fs r
  | _, _ => false

def tkB (P : Program) : TypeDesc → TK → Bool
  | .int k, .int k' => decide (k = k')
  | .bool, .bool => true
  | .string, .str => true
  | .float k, .flt => decide (k = .f64)
  | .complex k, .cpx => decide (k = .f64)
  | .struct fs, .struct fl => fieldsB P fs.toList fl
  | .array n e, .arr n' e' => Nat.beq n n' && Nat.beq e e'
  | .slice e, .sl e' => Nat.beq e e'
  | .pointer e, .ptr e' => Nat.beq e e'
  | .map k e, .mp k' e' => Nat.beq k k' && Nat.beq e e'
  | .func _ _ _, .fn => true
  | .tuple _, .tup => true
  | _, _ => false

theorem fieldsB_ok {P : Program} : ∀ {fs : List Field} {fl : List (Nat × Nat)}, fieldsB P fs fl = true → fs.length = fl.length ∧ ∀ (i : Nat) (f : Field), fs[i]? = some f → fl[i]? = some (f.offset, f.type) ∧ ∃ inf, P.info? f.type = some inf ∧ inf.size ≠ 0
  | [], [], _ => ⟨rfl, fun i f h => by simp at h⟩
  | g :: fs, (o, t) :: r, h => by
    simp only [fieldsB, Bool.and_eq_true] at h
    obtain ⟨⟨⟨h1, h2⟩, h3⟩, h4⟩ := h
    obtain ⟨h5, h6⟩ := fieldsB_ok h4
    refine ⟨by simp [h5], fun i f hf => ?_⟩
    cases i with
    | zero =>
      simp only [List.getElem?_cons_zero, Option.some.injEq] at hf
      subst hf
      refine ⟨by simp [Nat.eq_of_beq_eq_true h1, Nat.eq_of_beq_eq_true h2], ?_⟩
      split at h3
      · rename_i inf hi
        exact ⟨inf, hi, fun e => by rw [e] at h3; cases h3⟩
      · cases h3
    | succ i => simpa using h6 i f (by simpa using hf)
  | [], _ :: _, h => by cases h
  | _ :: _, [], h => by cases h

theorem tkB_ok {P : Program} {d : TypeDesc} {k : TK} (h : tkB P d k = true) : TkOk P d k := by
  unfold tkB at h
  split at h
  · rename_i k k'
    exact (of_decide_eq_true (p := k = k') h)
  · trivial
  · trivial
  · exact (of_decide_eq_true (p := _ = FloatKind.f64) h)
  · exact (of_decide_eq_true (p := _ = FloatKind.f64) h)
  · rename_i fs fl
    obtain ⟨h1, h2⟩ := fieldsB_ok h
    exact ⟨by simpa using h1, fun i f hf => h2 i f (by simpa using hf)⟩
  · simp only [Bool.and_eq_true] at h
    exact ⟨Nat.eq_of_beq_eq_true h.1, Nat.eq_of_beq_eq_true h.2⟩
  · exact Nat.eq_of_beq_eq_true h
  · exact Nat.eq_of_beq_eq_true h
  · simp only [Bool.and_eq_true] at h
    exact ⟨Nat.eq_of_beq_eq_true h.1, Nat.eq_of_beq_eq_true h.2⟩
  · trivial
  · trivial
  · cases h

def ckB (P : Program) (t : Nat) (c : CK) : Bool :=
  match P.underlying t with
  | some d => match d, c with
    | .int k, .int k' => decide (k = k')
    | .bool, .bool => true
    | .string, .str => true
    | _, _ => false
  | none => false

theorem ckB_ok {P : Program} {t : Nat} {c : CK} (h : ckB P t c = true) : CkOk P t c := by
  unfold ckB at h
  split at h
  · rename_i d hd
    split at h
    · have := of_decide_eq_true h
      subst this
      exact hd
    · exact hd
    · exact hd
    · cases h
  · cases h

def eqFieldsB (P : Program) : List Field → List CK → Nat → Bool
  | [], [], _ => true
  | f :: fs, k :: ks, i => !(f.name == "_") && Nat.beq f.offset i && ckB P f.type k && eqFieldsB P fs ks (i + 1)
  | _, _, _ => false

theorem eqFieldsB_ok {P : Program} : ∀ {fs : List Field} {ks : List CK} {n : Nat}, eqFieldsB P fs ks n = true → fs.length = ks.length ∧ ∀ (i : Nat) (f : Field), fs[i]? = some f → f.name ≠ "_" ∧ f.offset = n + i ∧ CkOk P f.type (ks.getD i .other)
  | [], [], _, _ => ⟨rfl, fun i f h => by simp at h⟩
  | g :: fs, k :: ks, n, h => by
    simp only [eqFieldsB, Bool.and_eq_true] at h
    obtain ⟨⟨⟨h1, h2⟩, h3⟩, h4⟩ := h
    obtain ⟨h5, h6⟩ := eqFieldsB_ok h4
    refine ⟨by simp [h5], fun i f hf => ?_⟩
    cases i with
    | zero =>
      simp only [List.getElem?_cons_zero, Option.some.injEq] at hf
      subst hf
      exact ⟨by simpa using h1, Nat.eq_of_beq_eq_true h2, ckB_ok h3⟩
    | succ i =>
      obtain ⟨q1, q2, q3⟩ := h6 i f (by simpa using hf)
      exact ⟨q1, by omega, by simpa using q3⟩
  | [], _ :: _, _, h => by cases h
  | _ :: _, [], _, h => by cases h

def zvI (k : IntKind) (n : Int) : Option Value → Bool
  | some (.int k' n') => decide (k' = k) && decide (n' = n)
  | _ => false
def zvF : Option Value → Bool
  | some (.bool b) => !b
  | _ => false
def zvS : Option Value → Bool
  | some (.string s) => decide (s.data.toList = [])
  | _ => false
def zvB (z : Option Value) (l : List SV) : Bool :=
  match l with
  | [.int k n] => zvI k n z
  | [.ff] => zvF z
  | [.str []] => zvS z
  | _ => true
theorem zvB_ok {z : Option Value} {l : List SV} (h : zvB z l = true) {x : Value} (hx : zVal l = some x) : z = some x := by
  unfold zVal at hx
  split at hx
  · cases hx
    have h : zvI _ _ z = true := h
    unfold zvI at h
    split at h
    · simp only [Bool.and_eq_true, decide_eq_true_eq] at h
      rw [h.1, h.2]
    · cases h
  · cases hx
    have h : zvF z = true := h
    unfold zvF at h
    split at h
    · simp only [Bool.not_eq_true'] at h
      rw [h]
    · cases h
  · cases hx
    have h : zvS z = true := h
    unfold zvS at h
    split at h
    · rename_i s h0
      have h : s.data.toList = [] := by simpa using h
      obtain ⟨⟨l⟩⟩ := s
      cases h; rfl
    · cases h
  · cases hx

def tyB (P : Program) (t : Nat) (L : TyL) : Bool :=
  (match P.info? t with
   | some inf => Nat.beq inf.size L.ks.length && Nat.beq inf.bytes L.bytes && (match inf.zero with
     | some z => Nat.beq z.cells.size L.ks.length && Nat.beq L.zero.length L.ks.length && zerosB z.cells.toList L.zero
     | none => false)
   | none => false) &&
  (match P.underlying t with
   | some d => tkB P d L.k && (!L.eq || (match d with
     | .struct fs => !P.stoodInHeld t && !P.eqGuardType P.depth t && eqFieldsB P fs.toList L.ks 0
     | _ => false))
   | none => false) && (L.k.agg || Nat.beq L.ks.length 1) && (match P.info? t with
    | some inf => zvB inf.zero L.zero
    | none => false)

theorem tyB_ok {P : Program} {t : Nat} {L : TyL} (h : tyB P t L = true) : TyOk P t L := by
  unfold tyB at h
  rw [Bool.and_eq_true] at h
  obtain ⟨h, hzv⟩ := h
  have hzv : ∀ x, zVal L.zero = some x → ∃ inf, P.info? t = some inf ∧ inf.zero = some x := fun x hx => by
    split at hzv
    · rename_i inf hi
      exact ⟨inf, hi, zvB_ok hzv hx⟩
    · cases hzv
  simp only [Bool.and_eq_true] at h
  obtain ⟨⟨h1, h2⟩, h3⟩ := h
  split at h1
  · rename_i inf hinf
    simp only [Bool.and_eq_true] at h1
    obtain ⟨⟨h4, h5⟩, h6⟩ := h1
    split at h6
    · rename_i z hz
      simp only [Bool.and_eq_true] at h6
      obtain ⟨⟨h7, h8⟩, h9⟩ := h6
      split at h2
      · rename_i d hd
        rw [Bool.and_eq_true] at h2
        refine ⟨⟨inf, z, hinf, Nat.eq_of_beq_eq_true h4, Nat.eq_of_beq_eq_true h5, hz, Nat.eq_of_beq_eq_true h7, Nat.eq_of_beq_eq_true h8, fun I w i => ?_⟩, ⟨d, hd, tkB_ok h2.1⟩, fun ha => ?_, fun he => ?_, hzv⟩
        · have := (zerosB_ok h9).2 I w i
          rw [Array.getD_eq_getD_getElem?]
          rw [List.getD_eq_getElem?_getD, Array.getElem?_toList] at this
          exact this
        · rw [ha] at h3
          exact Nat.eq_of_beq_eq_true (by simpa using h3)
        · obtain ⟨_, hq⟩ := h2
          rw [he, Bool.not_true, Bool.false_or] at hq
          split at hq
          · rename_i fs _
            simp only [Bool.and_eq_true, Bool.not_eq_true'] at hq
            obtain ⟨⟨q1, q2⟩, q3⟩ := hq
            obtain ⟨q4, q5⟩ := eqFieldsB_ok q3
            exact ⟨fs, hd, q1, q2, by simpa using q4, fun i f hf => by have := q5 i f (by simpa using hf); simpa using this⟩
          · cases hq
      · cases h2
    · cases h6
  · cases h1

def tysB (P : Program) : List (Nat × TyL) → Bool
  | [] => true
  | (t, L) :: r => tyB P t L && tysB P r
theorem tysB_ok {P : Program} : ∀ {l : List (Nat × TyL)}, tysB P l = true → ∀ t L, lkO l t = some L → TyOk P t L
  | [], _, t, L, h => by cases h
  | (k, v) :: r, hb, t, L, h => by
    simp only [tysB, Bool.and_eq_true] at hb
    rw [lkO_cons] at h
    by_cases e : k = t
    · subst e
      rw [if_pos rfl] at h
      cases h
      exact tyB_ok hb.1
    · rw [if_neg e] at h
      exact tysB_ok hb.2 t L h

def fnB (P : Program) (f : Nat) : Bool :=
  match P.funcs[f]? with
  | some fn => !fn.body.isNone && !(fn.name == "runtime.NumGoroutine")
  | none => false
theorem fnB_ok {P : Program} {f : Nat} (h : fnB P f = true) : FnB P f := by
  unfold fnB at h
  split at h
  · rename_i fn hf
    simp only [Bool.and_eq_true, Bool.not_eq_true'] at h
    exact ⟨fn, hf, h.1, h.2⟩
  · cases h

/-- What is known of a function: its contract holds. -/
structure Known (P : Program) [Laid P] (f : Nat) (c : Con) : Prop where
  b : FnB P f
  ok : ∀ as, closedAL as = true → obH (c.pre as) → closed (c.res as) = true ∧ FnOK P f as (c.res as)

inductive Knows (P : Program) [Laid P] : List (Nat × Con) → Prop where
  | nil : Knows P []
  | cons {f : Nat} {c : Con} {r : List (Nat × Con)} : Known P f c → Knows P r → Knows P ((f, c) :: r)

theorem Knows.get {P : Program} [Laid P] {l : List (Nat × Con)} (h : Knows P l) : ∀ f c, lkO l f = some c → Known P f c := by
  induction h with
  | nil => intro f c h; cases h
  | @cons g _ _ h1 _ ih =>
    intro f c h
    rw [lkO_cons] at h
    by_cases e : g = f
    · subst e; rw [if_pos rfl] at h; cases h; exact h1
    · rw [if_neg e] at h; exact ih f c h

theorem cxOk {P : Program} [Laid P] {lit : Bool} {nt : Nat} {ty : List (Nat × TyL)} {fn : List (Nat × Con)} (hm : P.follows .mixedOrders = true) (ht : ∀ t L, lkO ty t = some L → TyOk P t L) (hf : Knows P fn) : CxOk P ⟨nt, ty, fn, lit, 0, [], false⟩ :=
  ⟨hm, ht, fun f c h => (hf.get f c h).b, fun f c h => (hf.get f c h).ok, fun f T h => (by cases h), fun f T h => (by cases h)⟩

/-- What is known of a function that is gone through where it is called. -/
structure InK (P : Program) [Laid P] (f : Nat) (T : Tr) : Prop where
  b : FnB P f
  ok : ∀ off, InlOK P f (T off)
inductive InKs (P : Program) [Laid P] : List (Nat × Tr) → Prop where
  | nil : InKs P []
  | cons {f : Nat} {T : Tr} {r : List (Nat × Tr)} : InK P f T → InKs P r → InKs P ((f, T) :: r)
theorem InKs.get {P : Program} [Laid P] {l : List (Nat × Tr)} (h : InKs P l) : ∀ f T, lkO l f = some T → InK P f T := by
  induction h with
  | nil => intro f T h; cases h
  | @cons g _ _ h1 _ ih =>
    intro f T h
    rw [lkO_cons] at h
    by_cases e : g = f
    · subst e; rw [if_pos rfl] at h; cases h; exact h1
    · rw [if_neg e] at h; exact ih f T h
theorem cxOkI {P : Program} [Laid P] {lit : Bool} {nt off : Nat} {ty : List (Nat × TyL)} {fn : List (Nat × Con)} {inl : List (Nat × Tr)} {pl : Bool} (hm : P.follows .mixedOrders = true) (ht : ∀ t L, lkO ty t = some L → TyOk P t L) (hf : Knows P fn) (hi : InKs P inl) : CxOk P ⟨nt, ty, fn, lit, off, inl, pl⟩ :=
  ⟨hm, ht, fun f c h => (hf.get f c h).b, fun f c h => (hf.get f c h).ok, fun f T h => (hi.get f T h).b, fun f T h => (hi.get f T h).ok⟩

/-- Memory, each key once, written out. -/
def dedK : List (Nat × Chunk) → List Nat → (List (Nat × Chunk) → Prop) → Prop
  | [], _, k => k []
  | (x, c) :: r, acc, k => match acc.contains x with
    | true => dedK r acc k
    | false => dedK r (x :: acc) (fun m => k ((x, c) :: m))
def dedF : List (Nat × Chunk) → List Nat → List (Nat × Chunk)
  | [], _ => []
  | (x, c) :: r, acc => match acc.contains x with
    | true => dedF r acc
    | false => (x, c) :: dedF r (x :: acc)
theorem dedK_eq : ∀ (m : List (Nat × Chunk)) (acc : List Nat) (k : List (Nat × Chunk) → Prop), dedK m acc k = k (dedF m acc)
  | [], _, _ => rfl
  | (x, c) :: r, acc, k => by
    unfold dedK dedF
    cases acc.contains x with
    | true => exact dedK_eq r acc k
    | false => exact dedK_eq r (x :: acc) _

/-- A function, as what is gone through where it is called. -/
def trOf (nt : Nat) (ty : List (Nat × TyL)) (fs : List (Nat × Con)) (lit : Bool) (inl : List (Nat × Tr)) (pl : Bool) (An : Nat → List SV → List (Nat × Chunk) → Nat → Option Ann) (labs : List Nat) (fn : Func) : Tr := fun off as m K =>
  match Nat.ble as.length fn.ntmps with
  | true => dedK m [] (fun md => wpI ⟨nt, ty, fs, lit, off, inl, pl⟩ (An off as md) labs fn as m K)
  | false => False
theorem inK1 {P : Program} [Laid P] {f : Nat} {ty : List (Nat × TyL)} {fn : Func} {nt : Nat} {fs : List (Nat × Con)} {inl : List (Nat × Tr)} {An : Nat → List SV → List (Nat × Chunk) → Nat → Option Ann} {labs : List Nat} {lit pl : Bool}
    (hb : fnB P f = true) (hm : P.follows .mixedOrders = true) (ht : ∀ t L, lkO ty t = some L → TyOk P t L) (hk : Knows P fs) (hi : InKs P inl) (hf : P.funcs[f]? = some fn) (hnt : Nat.beq fn.ntmps nt = true) : InK P f (trOf nt ty fs lit inl pl An labs fn) :=
  ⟨fnB_ok hb, fun off => by
    have h := inlOK (cx := ⟨nt, ty, fs, lit, off, inl, pl⟩) (cxOkI hm ht hk hi) hf hnt (An := fun as m => An off as (dedF m [])) (labs := labs)
    have e : trOf nt ty fs lit inl pl An labs fn off = (fun as m K => match Nat.ble as.length fn.ntmps with
      | true => wpI ⟨nt, ty, fs, lit, off, inl, pl⟩ (An off as (dedF m [])) labs fn as m K
      | false => False) := by
      funext as m K
      unfold trOf
      simp only [dedK_eq]
    rw [e]; exact h⟩
end Go.Rx

