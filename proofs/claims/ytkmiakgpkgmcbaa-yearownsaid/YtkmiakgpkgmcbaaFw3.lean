/- The framework, part 3: when a value of the model is an abstract one; when a state of a run is one that is written out. -/
import Derived.Test.YtkmiakgpkgmcbaaFw2
namespace Go.Rx
open Go.RowKit

/-- 'x' is 'v', off memory that nobody writes any more (the blocks I). -/
inductive Conc (I : Nat → Prop) (w : World) : Value → SV → Prop where
  | any (x : Value) : Conc I w x .any
  | und : Conc I w undef .und
  | int (k : IntKind) (n : Int) : Conc I w (.int k n) (.int k n)
  | bool (b : Bool) : Conc I w (.bool b) (.bool b)
  | tt : Conc I w (.bool true) .tt
  | ff : Conc I w (.bool false) .ff
  | flt (b : Nat) : Conc I w (.float .f64 b) (.flt b)
  | cpx (x y : Nat) : Conc I w (.complex .f64 x y) (.cpx x y)
  | str (b : ByteArray) (s : List UInt8) : b.data.toList = s → Conc I w (.string b) (.str s)
  | agg (xs : Array Value) (cs : List SV) : xs.size = cs.length → (∀ i, Conc I w (xs.getD i undef) (cs.getD i .any)) → Conc I w (.agg xs) (.agg cs)
  | tup (xs : Array Value) (cs : List SV) : xs.size = cs.length → (∀ i, Conc I w (xs.getD i undef) (cs.getD i .any)) → Conc I w (.tuple xs) (.tup cs)
  | nilp : Conc I w (.pointer none) .nilp
  | nilsl : Conc I w (.slice none 0 0) .nilsl
  | fn (f : Nat) (xs : Array Value) (cs : List SV) : xs.size = cs.length → (∀ i, Conc I w (xs.getD i undef) (cs.getD i .any)) → Conc I w (.func (.func f) #[] xs) (.fn f cs)
  | sl0 (a : Option Addr) (cap : Nat) (ks : List CK) : Conc I w (.slice a 0 cap) (.sl ks [])
  | sl (b off cap : Nat) (ks : List CK) (l : List SV) (x : Nat → Nat → Value) : I b → l.length ≤ cap → (∀ e, e ∈ l → shOk ks e) →
      (∀ i j, i < l.length → j < ks.length → w.cell? ⟨b, off + i * ks.length + j, none⟩ = some (x i j)) →
      (∀ i j, i < l.length → j < ks.length → Conc I w (x i j) (elCell l i j)) → Conc I w (.slice (some ⟨b, off, none⟩) l.length cap) (.sl ks l)
  | ep (b off : Nat) (ks : List CK) (l : List SV) (i o : Nat) (x : Nat → Nat → Value) : I b → i < l.length → (∀ e, e ∈ l → shOk ks e) →
      (∀ i j, i < l.length → j < ks.length → w.cell? ⟨b, off + i * ks.length + j, none⟩ = some (x i j)) →
      (∀ i j, i < l.length → j < ks.length → Conc I w (x i j) (elCell l i j)) → Conc I w (.pointer (some ⟨b, off + i * ks.length + o, none⟩)) (.ep ks l i o)
  | nb (b : Bool) (l : List SV) : (b = true → l = []) → Conc I w (.bool b) (.nb l)
  | fsl (ad : Option Addr) (ks : List CK) (l : List SV) : Conc I w (.slice ad l.length l.length) (.sl ks l) → Conc I w (.slice ad l.length l.length) (.fsl ks l)
  | csl (b : Bool) (ad : Option Addr) (n cap : Nat) (ks : List CK) (l : List SV) : (b = true → Conc I w (.slice ad n cap) (.sl ks l)) → Conc I w (.slice ad n cap) (.csl b ks l)
  | oep (b : Bool) (x : Value) (ks : List CK) (l : List SV) (i o : Nat) : (b = false → x = .pointer none) → (b = true → Conc I w x (.ep ks l i o)) → Conc I w x (.oep b ks l i o)

/-- It stays so where these blocks stay as they are. -/
theorem Conc.mono {I I' : Nat → Prop} {w w' : World} {x : Value} {v : SV} (hI : ∀ b, I b → I' b) (hw : ∀ b, I b → w'.heap[b]? = w.heap[b]?) (h : Conc I w x v) : Conc I' w' x v := by
  induction h with
  | any x => exact .any x
  | und => exact .und
  | int k n => exact .int k n
  | flt b => exact .flt b
  | cpx x y => exact .cpx x y
  | bool b => exact .bool b
  | tt => exact .tt
  | ff => exact .ff
  | str b s h => exact .str b s h
  | agg xs cs hs _ ih => exact .agg xs cs hs ih
  | tup xs cs hs _ ih => exact .tup xs cs hs ih
  | nilp => exact .nilp
  | nilsl => exact .nilsl
  | fn f xs cs hs _ ih => exact .fn f xs cs hs ih
  | sl0 a cap ks => exact .sl0 a cap ks
  | sl b off cap ks l x hb hc hsh hx _ ih =>
    exact .sl b off cap ks l x (hI b hb) hc hsh (fun i j hi hj => by rw [World.cell?_of_block (w := w) (hw b hb)]; exact hx i j hi hj) ih
  | ep b off ks l i o x hb hi hsh hx _ ih =>
    exact .ep b off ks l i o x (hI b hb) hi hsh (fun i j hi hj => by rw [World.cell?_of_block (w := w) (hw b hb)]; exact hx i j hi hj) ih
  | nb b l h => exact .nb b l h
  | fsl ad ks l _ ih => exact .fsl ad ks l ih
  | oep b x ks l i o h1 _ ih => exact .oep b x ks l i o h1 ih
  | csl b ad n cap ks l _ ih => exact .csl b ad n cap ks l ih

/-- Where a function's own memory lies. -/
structure Env where
  loc : Nat → Option Nat
  cv : Nat → Value
  I : Nat → Prop
  gv : Nat → Value

def verOf : Option Chunk → Option Nat
  | some (.row v _ _ _) => some v
  | some (.froz v _ _) => some v
  | _ => none

/-- Is a chunk a map; an iterator? -/
def isMp : Option Chunk → Bool
  | some (.mp _ _ _ _ _) => true
  | _ => false
def isIt : Option Chunk → Bool
  | some (.it _ _ _ _) => true
  | _ => false

/-- The end of a slice. -/
def TailV (y : Value) (sz k : Nat) (x : Value) : Prop := ∀ ad n cap, y = .slice ad n cap → x = .slice (if cap = k then ad else ad.map (·.add (k * sz))) (n - k) (cap - k)

/-- 'x' is 'v', which may name memory of the function's own. -/
inductive CV (E : Env) (m : Nat → Option Chunk) (w : World) : Value → SV → Prop where
  | conc (x : Value) (v : SV) : Conc E.I w x v → CV E m w x v
  | agg (xs : Array Value) (cs : List SV) : xs.size = cs.length → (∀ i, CV E m w (xs.getD i undef) (cs.getD i .any)) → CV E m w (.agg xs) (.agg cs)
  | tup (xs : Array Value) (cs : List SV) : xs.size = cs.length → (∀ i, CV E m w (xs.getD i undef) (cs.getD i .any)) → CV E m w (.tuple xs) (.tup cs)
  | fn (f : Nat) (xs : Array Value) (cs : List SV) : xs.size = cs.length → (∀ i, CV E m w (xs.getD i undef) (cs.getD i .any)) → CV E m w (.func (.func f) #[] xs) (.fn f cs)
  | ptr (c off b : Nat) (t : Nat) (cs : List SV) : m c = some (.box t cs) → E.loc c = some b → CV E m w (.pointer (some ⟨b, off, none⟩)) (.ptr c off)
  | ptx (c off b : Nat) (t : Nat) (cs : List SV) : m c = some (.box t cs) → E.loc c = some b → CV E m w (.pointer (some ⟨b, off, none⟩)) (.ptx c off)
  | mpp (c b : Nat) : isMp (m c) = true → E.loc c = some b → CV E m w (.map (some b)) (.mpp c)
  | itp (c b : Nat) : isIt (m c) = true → E.loc c = some b → CV E m w (.pointer (some ⟨b, 0, none⟩)) (.itp c)
  | osl (x : Value) (c ver v : Nat) : verOf (m c) = some v → ver ≤ v → (ver = v → x = E.cv c) → CV E m w x (.osl c ver)
  | rptr (x : Value) (c sz i o ver v : Nat) : verOf (m c) = some v → ver ≤ v → (ver = v → ∀ b, E.loc c = some b → x = .pointer (some ⟨b, i * sz + o, none⟩)) → CV E m w x (.rptr c sz i o ver)
  | otl (x : Value) (c sz k ver v : Nat) : verOf (m c) = some v → ver ≤ v → (ver = v → TailV (E.cv c) sz k x) → CV E m w x (.otl c sz k ver)

/-- .. -/
def RowA (E : Env) (w : World) (c e : Nat) (ks : List CK) (l : List SV) : Prop :=
  E.loc c = (E.cv c).ownBlock ∧ ∃ xs : List Value, w.ownsRow 0 e ks.length (E.cv c) l.length xs ∧ ∀ i j, i < l.length → j < ks.length → Conc E.I w (xs.getD (i * ks.length + j) undef) (elCell l i j)

/-- .. one without elements, and without room. -/
def RowZ (E : Env) (c : Nat) (l : List SV) : Prop := l = [] ∧ E.loc c = none ∧ ∃ ad, E.cv c = .slice ad 0 0
def RowR (E : Env) (w : World) (c e : Nat) (ks : List CK) (l : List SV) : Prop :=
  (∀ v, v ∈ l → shOk ks v) ∧ (RowA E w c e ks l ∨ RowZ E c l)

/-- A map of the function's own: its entries in the order in which they came, each with its key, its value and its stamp. -/
def EntR (I : Nat → Prop) (w : World) (kk vk : CK) (e : MapEntry) (v : SV) : Prop :=
  shOk [kk, vk, .int .i64] v ∧ Conc I w e.key (v.cells.getD 0 .any) ∧ Conc I w e.val (v.cells.getD 1 .any) ∧ v.cells.getD 2 .any = .int .i64 e.born
def EsR (I : Nat → Prop) (w : World) (kk vk : CK) : List MapEntry → List SV → Prop
  | [], [] => True
  | e :: es, v :: l => EntR I w kk vk e v ∧ EsR I w kk vk es l
  | _, _ => False
theorem EsR.mono {I I' : Nat → Prop} {w w' : World} {kk vk : CK} (hI : ∀ b, I b → I' b) (hw : ∀ b, I b → w'.heap[b]? = w.heap[b]?) : ∀ {es : List MapEntry} {l : List SV}, EsR I w kk vk es l → EsR I' w' kk vk es l
  | [], [], _ => trivial
  | _ :: _, _ :: _, ⟨⟨h1, h2, h3, h4⟩, h5⟩ => ⟨⟨h1, h2.mono hI hw, h3.mono hI hw, h4⟩, EsR.mono hI hw h5⟩
def MapR (I : Nat → Prop) (w : World) (b : Nat) (kk vk : CK) (l : List SV) (ck : Nat) : Prop :=
  ∃ es : Array MapEntry, w.heap[b]? = some (.map es ck) ∧ EsR I w kk vk es.toList l ∧ (∀ e, e ∈ es.toList → e.born < ck) ∧ (es.toList.map (·.born)).Pairwise (· < ·)

/-- What a piece of memory of the function's own is. -/
def ChR (E : Env) (m : Nat → Option Chunk) (w : World) (c : Nat) : Option Chunk → Prop
  | none => True
  | some (.box t cs) => ∃ b xs, E.loc c = some b ∧ w.heap[b]? = some (.cells xs t (0, 0)) ∧ xs.size = cs.length ∧ ∀ i, CV E m w (xs.getD i undef) (cs.getD i .any)
  | some (.row _ e ks l) => RowR E w c e ks l
  | some (.froz _ ks l) => Conc E.I w (E.cv c) (.sl ks l)
  | some (.gh v) => CV E m w (E.gv c) v
  | some (.mp _ kk vk l ck) => ∃ b, E.loc c = some b ∧ MapR E.I w b kk vk l ck
  | some (.it d a sn e) => ∃ b db, E.loc c = some b ∧ CV E m w (.map (some db)) (.mpp d) ∧ w.heap[b]? = some (.mapIter (some db) a sn.reverse.toArray e)

theorem ownsRow_same {w w' : World} {base e size n : Nat} {v : Value} {xs : List Value} (h : w.ownsRow base e size v n xs) (hb : ∀ b, v.ownBlock = some b → w'.heap[b]? = w.heap[b]?) : w'.ownsRow base e size v n xs := by
  obtain ⟨h1, h2⟩ := h
  refine ⟨h1, ?_⟩
  rcases h2 with h2 | ⟨g, cap, cur, rfl, hg, hh, r⟩
  · exact .inl h2
  · exact .inr ⟨g, cap, cur, rfl, hg, by rw [hb g rfl]; exact hh, r⟩

theorem RowR.isSlice {E : Env} {w : World} {c e : Nat} {ks : List CK} {l : List SV} (h : RowR E w c e ks l) : ∃ ad cap, E.cv c = .slice ad l.length cap := by
  obtain ⟨_, ⟨_, xs, ho, _⟩ | ⟨rfl, _, ad, h⟩⟩ := h
  rotate_left
  · exact ⟨ad, 0, h⟩
  rcases ho.2 with ⟨h1, h2⟩ | ⟨g, cap, cur, h1, _⟩
  · exact ⟨none, 0, by rw [h1, h2]⟩
  · exact ⟨_, cap, h1⟩

/-- It may be given away. -/
theorem RowR.toConc {E : Env} {w : World} {c e : Nat} {ks : List CK} {l : List SV} (h : RowR E w c e ks l) {I : Nat → Prop} (hI : ∀ b, E.I b → I b) (hb : ∀ b, E.loc c = some b → I b) : Conc I w (E.cv c) (.sl ks l) := by
  obtain ⟨h1, ⟨h2, xs, ho, h4⟩ | ⟨rfl, _, ad, h⟩⟩ := h
  rotate_left
  · rw [h]; exact .sl0 ad 0 ks
  rcases ho.2 with ⟨e1, e2⟩ | ⟨g, cap, cur, e1, hg, hh, hn, hm, hs, ht⟩
  · have : l = [] := List.eq_nil_of_length_eq_zero e2
    subst this
    rw [e1]
    exact .sl0 none 0 ks
  · rw [e1]
    rw [e1] at h2
    refine .sl g 0 cap ks l (fun i j => xs.getD (i * ks.length + j) undef) (hb g (by rw [h2]; rfl)) hn h1 (fun i j hi hj => ?_) (fun i j hi hj => (h4 i j hi hj).mono hI (fun _ _ => rfl))
    have hlt : i * ks.length + j < l.length * ks.length := by
      have : (i + 1) * ks.length ≤ l.length * ks.length := Nat.mul_le_mul_right _ hi
      rw [Nat.add_mul, Nat.one_mul] at this
      omega
    have hlt2 : i * ks.length + j < cur.size := by
      rw [hs]
      exact Nat.lt_of_lt_of_le hlt (Nat.mul_le_mul_right _ hn)
    rw [Nat.zero_add]
    simp only [World.cell?, hh]
    rw [if_neg (by simp), ← ht, Array.getElem?_eq_getElem hlt2]
    simp [List.getD_eq_getElem?_getD, hlt, hlt2]

/-- Its cells. -/
theorem RowR.cells {E : Env} {w : World} {c e : Nat} {ks : List CK} {l : List SV} (h : RowR E w c e ks l) (hne : 0 < l.length) :
    ∃ g cap, E.loc c = some g ∧ E.cv c = .slice (some ⟨g, 0, none⟩) l.length cap ∧ ∃ f : Nat → Nat → Value, ∀ i j, i < l.length → j < ks.length → w.cell? ⟨g, i * ks.length + j, none⟩ = some (f i j) ∧ Conc E.I w (f i j) (elCell l i j) := by
  obtain ⟨h1, ⟨h2, xs, ho, h4⟩ | ⟨rfl, _⟩⟩ := h
  rotate_left
  · simp at hne
  rcases ho.2 with ⟨e1, e2⟩ | ⟨g, cap, cur, e1, hg, hh, hn, hm, hs, ht⟩
  · omega
  · rw [e1] at h2
    refine ⟨g, cap, h2, e1, fun i j => xs.getD (i * ks.length + j) undef, fun i j hi hj => ⟨?_, h4 i j hi hj⟩⟩
    have hlt : i * ks.length + j < l.length * ks.length := by
      have : (i + 1) * ks.length ≤ l.length * ks.length := Nat.mul_le_mul_right _ hi
      rw [Nat.add_mul, Nat.one_mul] at this
      omega
    have hlt2 : i * ks.length + j < cur.size := by
      rw [hs]
      exact Nat.lt_of_lt_of_le hlt (Nat.mul_le_mul_right _ hn)
    simp only [World.cell?, hh]
    rw [if_neg (by simp), ← ht, Array.getElem?_eq_getElem hlt2]
    simp [List.getD_eq_getElem?_getD, hlt, hlt2]

/-- The world has changed in what is the function's own alone. -/
structure Fr (B : Nat) (M : Nat → Prop) (w w' : World) : Prop where
  os : w'.os = w.os
  tape : w'.tape = w.tape
  output : w'.output = w.output
  size : w.heap.size ≤ w'.heap.size
  block : ∀ k, k < B → ¬ M k → w'.heap[k]? = w.heap[k]?

theorem Fr.refl (B : Nat) (M : Nat → Prop) (w : World) : Fr B M w w := ⟨rfl, rfl, rfl, Nat.le_refl _, fun _ _ _ => rfl⟩
theorem Fr.trans {B : Nat} {M : Nat → Prop} {a b c : World} (h : Fr B M a b) (k : Fr B M b c) : Fr B M a c :=
  ⟨k.os.trans h.os, k.tape.trans h.tape, k.output.trans h.output, Nat.le_trans h.size k.size, fun i hi hM => (k.block i hi hM).trans (h.block i hi hM)⟩

/-- What is asked of each memory in which the program runs: that package-level variables hold what they held; old memory tells it. -/
class Laid (P : Program) where
  ok : World → Prop
  mono : ∀ {w w' : World}, w.heap.size ≤ w'.heap.size → (∀ k, k < w.heap.size → w'.heap[k]? = w.heap[k]?) → ok w → ok w'
@[reducible] def Laid.none (P : Program) : Laid P := ⟨fun _ => True, fun _ _ _ => trivial⟩

/-- A state of a run is one that is written out. -/
structure Rel (P : Program) [Laid P] (nt B : Nat) (M I0 : Nat → Prop) (G : Nat → Value) (w0 : World) (E : Env) (s : St) (a : Act) (w : World) : Prop where
  defers : a.defers = []
  tsize : a.tmps.size = nt
  fr : Fr B M w0 w
  base : B ≤ w.heap.size
  i0 : ∀ b, I0 b → E.I b
  inew : ∀ b, E.I b → b < w.heap.size ∧ (I0 b ∨ B ≤ b ∨ M b)
  loc : ∀ c b, E.loc c = some b → b < w.heap.size ∧ ¬ E.I b ∧ (B ≤ b ∨ M b ∨ (roK c = true ∧ verOf (lkO s.mem c) = none))
  inj : ∀ c c' b, E.loc c = some b → E.loc c' = some b → c = c'
  tm : ∀ t, CV E (lkO s.mem) w (a.tmps.getD t undef) (lk .any s.tm t)
  ch : ∀ c, ChR E (lkO s.mem) w c (lkO s.mem c)
  ld : ∀ w', Fr B M w0 w' → Laid.ok P w'
  gv : E.gv = G

/-- The values are carried over. -/
theorem CV.mono {E E' : Env} {m m' : Nat → Option Chunk} {w w' : World} {x : Value} {v : SV}
    (hI : ∀ b, E.I b → E'.I b) (hw : ∀ b, E.I b → w'.heap[b]? = w.heap[b]?)
    (hb : ∀ c t cs b, m c = some (.box t cs) → E.loc c = some b → (∃ t' cs', m' c = some (.box t' cs')) ∧ E'.loc c = some b)
    (hq : ∀ c b, (isMp (m c) = true ∨ isIt (m c) = true) → E.loc c = some b → (isMp (m c) = true → isMp (m' c) = true) ∧ (isIt (m c) = true → isIt (m' c) = true) ∧ E'.loc c = some b)
    (hv : ∀ c v, verOf (m c) = some v → ∃ v', verOf (m' c) = some v' ∧ v ≤ v' ∧ (v' = v → E'.cv c = E.cv c ∧ ∀ b, E'.loc c = some b → E.loc c = some b))
    (h : CV E m w x v) : CV E' m' w' x v := by
  induction h with
  | conc x v h => exact .conc x v (h.mono hI hw)
  | agg xs cs hs _ ih => exact .agg xs cs hs ih
  | tup xs cs hs _ ih => exact .tup xs cs hs ih
  | fn f xs cs hs _ ih => exact .fn f xs cs hs ih
  | ptr c off b t cs h1 h2 => obtain ⟨⟨t', cs', h3⟩, h4⟩ := hb c t cs b h1 h2; exact .ptr c off b t' cs' h3 h4
  | ptx c off b t cs h1 h2 => obtain ⟨⟨t', cs', h3⟩, h4⟩ := hb c t cs b h1 h2; exact .ptx c off b t' cs' h3 h4
  | mpp c b h1 h2 => obtain ⟨h3, _, h4⟩ := hq c b (.inl h1) h2; exact .mpp c b (h3 h1) h4
  | itp c b h1 h2 => obtain ⟨_, h3, h4⟩ := hq c b (.inr h1) h2; exact .itp c b (h3 h1) h4
  | osl x c ver v h1 h2 h3 =>
    obtain ⟨v', e1, e2, e3⟩ := hv c v h1
    exact .osl x c ver v' e1 (by omega) (fun e => by
      have : v' = v := by omega
      rw [(e3 this).1]; exact h3 (by omega))
  | otl x c sz k ver v h1 h2 h3 =>
    obtain ⟨v', e1, e2, e3⟩ := hv c v h1
    exact .otl x c sz k ver v' e1 (by omega) (fun e => by
      have : v' = v := by omega
      rw [(e3 this).1]; exact h3 (by omega))
  | rptr x c sz i o ver v h1 h2 h3 =>
    obtain ⟨v', e1, e2, e3⟩ := hv c v h1
    exact .rptr x c sz i o ver v' e1 (by omega) (fun e b hb => by
      have : v' = v := by omega
      exact h3 (by omega) b ((e3 this).2 b hb))

/-- Maps and iterators that are what they were. -/
def isPt (ch : Option Chunk) : Prop := isMp ch = true ∨ isIt ch = true
theorem hq_of {E E' : Env} {m m' : Nat → Option Chunk} (h : ∀ c b, isPt (m c) → E.loc c = some b → m' c = m c ∧ E'.loc c = some b) :
    ∀ c b, (isMp (m c) = true ∨ isIt (m c) = true) → E.loc c = some b → (isMp (m c) = true → isMp (m' c) = true) ∧ (isIt (m c) = true → isIt (m' c) = true) ∧ E'.loc c = some b :=
  fun c b h1 h2 => by obtain ⟨e1, e2⟩ := h c b h1 h2; rw [e1]; exact ⟨id, id, e2⟩
theorem isPt_none {c : Option Chunk} (h : isPt c) (hc : c = none) : False := by subst hc; rcases h with h | h <;> cases h
theorem isPt_box {t : Nat} {cs : List SV} {c : Option Chunk} (h : isPt c) (hc : c = some (.box t cs)) : False := by subst hc; rcases h with h | h <;> cases h
theorem isPt_row {v e : Nat} {ks : List CK} {l : List SV} {c : Option Chunk} (h : isPt c) (hc : c = some (.row v e ks l)) : False := by subst hc; rcases h with h | h <;> cases h
theorem isPt_froz {v : Nat} {ks : List CK} {l : List SV} {c : Option Chunk} (h : isPt c) (hc : c = some (.froz v ks l)) : False := by subst hc; rcases h with h | h <;> cases h
theorem isPt_gh {v : SV} {c : Option Chunk} (h : isPt c) (hc : c = some (.gh v)) : False := by subst hc; rcases h with h | h <;> cases h
theorem isPt_ver {c : Option Chunk} {v : Nat} (h : isPt c) (hv : verOf c = some v) : False := by
  match c, h, hv with
  | some (.row _ _ _ _), h, _ => exact isPt_row h rfl
  | some (.froz _ _ _), h, _ => exact isPt_froz h rfl

theorem CV.ofConc {E : Env} {m : Nat → Option Chunk} {w : World} {x : Value} {v : SV} (h : Conc E.I w x v) : CV E m w x v := .conc x v h

mutual
theorem closed_conc {E : Env} {m : Nat → Option Chunk} {w : World} : ∀ (v : SV) (x : Value), closed v = true → CV E m w x v → Conc E.I w x v
  | .any, x, _, _ => .any x
  | .und, _, _, h => by cases h; assumption
  | .int _ _, _, _, h => by cases h; assumption
  | .bool _, _, _, h => by cases h; assumption
  | .tt, _, _, h => by cases h; assumption
  | .ff, _, _, h => by cases h; assumption
  | .str _, _, _, h => by cases h; assumption
  | .flt _, _, _, h => by cases h; assumption
  | .cpx _ _, _, _, h => by cases h; assumption
  | .agg cs, _, hc, h => by
    cases h with
    | conc _ _ h => exact h
    | agg xs _ hs hx => exact .agg xs cs hs (fun i => closedL_conc cs (by simpa [closed] using hc) i _ (hx i))
  | .tup cs, _, hc, h => by
    cases h with
    | conc _ _ h => exact h
    | tup xs _ hs hx => exact .tup xs cs hs (fun i => closedL_conc cs (by simpa [closed] using hc) i _ (hx i))
  | .fn f cs, _, hc, h => by
    cases h with
    | conc _ _ h => exact h
    | fn _ xs _ hs hx => exact .fn f xs cs hs (fun i => closedL_conc cs (by simpa [closed] using hc) i _ (hx i))
  | .ptr _ _, _, hc, _ => by simp [closed] at hc
  | .ptx _ _, _, hc, _ => by simp [closed] at hc
  | .rptr _ _ _ _ _, _, hc, _ => by simp [closed] at hc
  | .osl _ _, _, hc, _ => by simp [closed] at hc
  | .lp _ _, _, hc, _ => by simp [closed] at hc
  | .mpp _, _, hc, _ => by simp [closed] at hc
  | .itp _, _, hc, _ => by simp [closed] at hc
  | .sl _ _, _, _, h => by cases h; assumption
  | .ep _ _ _ _, _, _, h => by cases h; assumption
  | .oep _ _ _ _ _, _, _, h => by cases h; assumption
  | .csl _ _ _, _, _, h => by cases h; assumption
  | .nb _, _, _, h => by cases h; assumption
  | .fsl _ _, _, _, h => by cases h; assumption
  | .own _ _ _, _, _, h => by cases h; assumption
  | .nilsl, _, _, h => by cases h; assumption
  | .nilp, _, _, h => by cases h; assumption
theorem closedL_conc {E : Env} {m : Nat → Option Chunk} {w : World} : ∀ (cs : List SV), closedL cs = true → ∀ (i : Nat) (x : Value), CV E m w x (cs.getD i .any) → Conc E.I w x (cs.getD i .any)
  | [], _, _, x, _ => by simpa using Conc.any x
  | v :: r, hc, 0, x, h => by
    simp only [closedL, Bool.and_eq_true] at hc
    simpa using closed_conc v x hc.1 (by simpa using h)
  | v :: r, hc, i + 1, x, h => by
    simp only [closedL, Bool.and_eq_true] at hc
    simpa using closedL_conc r hc.2 i x (by simpa using h)
end
end Go.Rx

