/- The framework, part 2: the symbolic executor over code: regions, branches, loops with what holds at their heads, scopes with labels. -/
import Derived.Test.YtkmiakgpkgmcbaaFw1
namespace Go.Rx

inductive Ex where
  | normal
  | ret
  | exit (id : Nat)
  | goto (l : Nat)

/-- What holds at a loop's head, or at a label. -/
structure Ann where
  ι : Type
  F : ι → St
  p : ι → Prop
  μ : ι → Nat
  kt : List Nat
  km : List Nat
  nc : List (Nat × Nat × Nat × List CK)
  sub : ι → Nat → Option Ann

def befStep (acc : List Nat) (s : Nat) (e : Edge) : Nat :=
  match Region.binds .any e with
  | true => s ||| 2 ^ e.on ||| acc.getD e.on 0
  | false => s

/-- All operations that must be behind this one, as a number's bits. -/
def befN : List Oper → List Nat → List Nat
  | [], acc => acc.reverse
  | o :: r, acc => befN r (o.after.toList.foldl (befStep acc.reverse) 0 :: acc)

def looks (all : List Oper) (o : Oper) : List Nat :=
  (o.op.operands.toList.filterMap fun | .tmp t => some t | _ => none) ++
  (match o.guard with
   | some (g, _) => match all[g]? with
     | some og => og.dst.toList
     | none => []
   | none => [])

def disj (a b : List Nat) : Bool := a.all fun x => b.all fun y => !Nat.beq x y

/-- Two operations of which neither waits for the other one have nothing to do with each other. -/
def apartE (all : List Oper) (oi oj : Oper) (ei ej : Eff) : Bool :=
  disj oi.dst.toList (oj.dst.toList ++ looks all oj) && disj oj.dst.toList (looks all oi) &&
  disj (ei.ch.map (·.1)) (ej.ch.map (·.1) ++ ej.rd) && disj (ej.ch.map (·.1)) ei.rd

def noSel : Op → Bool
  | .select _ _ => false
  | _ => true

def edgesOk (o : Oper) (i : Nat) : Bool := o.after.toList.all fun e => !Region.binds .any e || Nat.blt e.on i

/-- May a region's operations be carried out in whatever order they may? -/
def indep (ops : List Oper) (fs : List (Nat × Eff)) : Bool :=
  let b := befN ops []
  ops.zipIdx.all fun (oj, j) => noSel oj.op && edgesOk oj j &&
    (ops.take j).zipIdx.all fun (oi, i) => (b.getD j 0).testBit i || (match lkO fs i, lkO fs j with
      | some ei, some ej => apartE ops oi oj ei ej
      | _, _ => false)

mutual
/-- A value at a loop's head: the versions are counted anew. -/
def normV (m : List (Nat × Chunk)) (km : List Nat) : SV → SV
  | .osl c ver => match km.contains c, lkO m c with
    | true, some (.row v _ _ _) => match Nat.beq v ver with
      | true => .osl c 0
      | false => .any
    | true, some (.froz v _ _) => match Nat.beq v ver with
      | true => .osl c 0
      | false => .any
    | false, some (.froz v ks l) => match Nat.beq v ver with
      | true => .sl ks l
      | false => .any
    | _, _ => .any
  | .ptr c off => match km.contains c with
    | true => .ptr c off
    | false => .any
  | .ptx c off => match km.contains c with
    | true => .ptx c off
    | false => .any
  | .mpp c => match km.contains c with
    | true => .mpp c
    | false => .any
  | .itp c => match km.contains c, lkO m c with
    | true, some (.it d _ _ _) => match km.contains d with
      | true => .itp c
      | false => .any
    | _, _ => .any
  | .rptr _ _ _ _ _ => .any
  | .otl _ _ _ _ => .any
  | .agg cs => .agg (normL m km cs)
  | .tup cs => .tup (normL m km cs)
  | .fn f cs => .fn f (normL m km cs)
  | v => v
def normL (m : List (Nat × Chunk)) (km : List Nat) : List SV → List SV
  | [] => []
  | v :: r => normV m km v :: normL m km r
end

def normC (m : List (Nat × Chunk)) (km : List Nat) : Chunk → Chunk
  | .box t cs => .box t (normL m km cs)
  | .row _ e ks l => .row 0 e ks l
  | .froz _ ks l => .froz 0 ks l
  | .gh v => .gh (normV m km v)
  | .mp t a b l ck => .mp t a b l ck
  | .it d a sn b => match km.contains d with
    | true => .it d a sn b
    | false => .gh .any

/-- A nil slice in a cell of a box, as one of the function's own. -/
def nilBox (b o c e : Nat) (ks : List CK) (s : St) : St :=
  match lkO s.mem b, lkO s.mem c with
  | some (.box t cs), none => match cs[o]? with
    | some .nilsl => ⟨s.tm, (b, .box t (cs.set o (.osl c 0))) :: (c, .row 0 e ks []) :: s.mem⟩
    | _ => s
  | _, _ => s
/-- A slice of the function's own is written no more. -/
def frzAt (c : Nat) (s : St) : St :=
  match lkO s.mem c with
  | some (.row v _ ks l) => ⟨s.tm, (c, .froz v ks l) :: s.mem⟩
  | _ => s
/-- Another map of one's own under a key: what named the old one names nothing. -/
def renV (a b : Nat) (v : SV) : SV :=
  match v with
  | .mpp c => match Nat.beq c b with
    | true => .mpp a
    | false => match Nat.beq c a with
      | true => .any
      | false => .mpp c
  | .itp _ => .any
  | .agg cs => match closedL cs with
    | true => .agg cs
    | false => .any
  | .tup cs => match closedL cs with
    | true => .tup cs
    | false => .any
  | .fn f cs => match closedL cs with
    | true => .fn f cs
    | false => .any
  | v => v
def renC (a b : Nat) : Chunk → Chunk
  | .box t cs => .box t (cs.map (renV a b))
  | .gh v => .gh (renV a b v)
  | .it _ _ _ _ => .gh .any
  | ch => ch
def renM (a b : Nat) : List (Nat × Chunk) → List (Nat × Chunk)
  | [] => []
  | (c, ch) :: r => match Nat.beq c a || Nat.beq c b with
    | true => renM a b r
    | false => (c, renC a b ch) :: renM a b r
def renT (a b : Nat) : List (Nat × SV) → List (Nat × SV)
  | [] => []
  | (t, v) :: r => (t, renV a b v) :: renT a b r
/-- The map in slot t comes under the key a. -/
def renMp (a t : Nat) (s : St) : St :=
  match lk .any s.tm t with
  | .mpp b => match Nat.beq a b || roK b with
    | true => s
    | false => match lkO s.mem a, lkO s.mem b with
      | some (.mp _ _ _ _ _), some (.mp ty k e l ck) => ⟨renT a b s.tm, (a, .mp ty k e l ck) :: renM a b s.mem⟩
      | _, _ => s
  | _ => s
/-- The nil slices that a loop appends to, as slices of the function's own. Those in cells of boxes: 100000 + 100 times the box and the cell. 99999: a slice of the function's own is written no more. -/
def nilConv : List (Nat × Nat × Nat × List CK) → St → St
  | [], s => s
  | (t, c, e, ks) :: r, s => nilConv r (match Nat.blt t 100000 with
    | true => match Nat.beq t 99999 with
      | true => frzAt c s
      | false => match Nat.beq t 99998 with
       | true => renMp c e s
       | false => match lk .any s.tm t, lkO s.mem c with
        | .nilsl, none => ⟨(t, .osl c 0) :: s.tm, (c, .row 0 e ks []) :: s.mem⟩
        | _, _ => s
    | false => nilBox ((t - 100000) / 100) ((t - 100000) % 100) c e ks s)

def keepM (m : List (Nat × Chunk)) (km : List Nat) : List Nat → List (Nat × Chunk)
  | [] => []
  | c :: r => match lkO m c with
    | some ch => (c, normC m km ch) :: keepM m km r
    | none => keepM m km r

def keepT (s : St) (km : List Nat) : List Nat → List (Nat × SV)
  | [] => []
  | t :: r => (t, normV s.mem km (lk .any s.tm t)) :: keepT s km r

def weaken (A : Ann) (s : St) : St :=
  match nilConv A.nc s with
  | s => ⟨keepT s A.km A.kt, keepM s.mem A.km A.km⟩

/-! Equality of states that are written out, piece by piece. -/
def andL : List Prop → Prop
  | [] => True
  | p :: r => p ∧ andL r

def eqS : SV → SV → List Prop
  | .int k a, .int k' b => match decide (k = k') with
    | true => [a = b]
    | false => [False]
  | .bool a, .bool b => [a = b]
  | .tt, .bool b => [b = true]
  | .ff, .bool b => [b = false]
  | .str a, .str b => [a = b]
  | .sl ks a, .sl ks' b => match cksEq ks ks' with
    | true => [a = b]
    | false => [False]
  | .nilsl, .sl _ b => [b = []]
  | .csl b ks a, .sl ks' c => match cksEq ks ks' with
    | true => [b = true, a = c]
    | false => [False]
  | a, b => [a = b]
def eqSs : List SV → List SV → List Prop
  | [], [] => []
  | a :: r, b :: s => eqS a b ++ eqSs r s
  | _, _ => [False]
def eqTop : SV → SV → List Prop
  | .agg a, .agg b => eqSs a b
  | .osl c v, .osl c' v' => match Nat.beq c c', Nat.beq v v' with
    | true, true => []
    | _, _ => [False]
  | .ptr c v, .ptr c' v' => match Nat.beq c c', Nat.beq v v' with
    | true, true => []
    | _, _ => [False]
  | .any, .any => []
  | .nilsl, .nilsl => []
  | .tt, .tt => []
  | .ff, .ff => []
  | .nilp, .nilp => []
  | .nilp, .oep b _ _ _ _ => [b = false]
  | .ep ks l i o, .oep b ks' l' i' o' => match cksEq ks ks' with
    | true => [b = true, l = l', i = i', o = o']
    | false => [False]
  | .oep b ks l i o, .oep b' ks' l' i' o' => match cksEq ks ks' with
    | true => [b = b', b' = true → (l = l' ∧ i = i' ∧ o = o')]
    | false => [False]
  | _, .any => []
  | a, b => eqS a b
def eqC : Chunk → Chunk → List Prop
  | .box t cs, .box t' cs' => match Nat.beq t t' with
    | true => (cs.zip cs').foldr (fun (a, b) r => eqTop a b ++ r) (match Nat.beq cs.length cs'.length with
      | true => []
      | false => [False])
    | false => [False]
  | .row v e ks l, .row v' e' ks' l' => match Nat.beq v v', Nat.beq e e', cksEq ks ks' with
    | true, true, true => [l = l']
    | _, _, _ => [False]
  | .froz v ks l, .froz v' ks' l' => match Nat.beq v v', cksEq ks ks' with
    | true, true => [l = l']
    | _, _ => [False]
  | .gh a, .gh b => eqTop a b
  | .mp t a b l ck, .mp t' a' b' l' ck' => match Nat.beq t t', cksEq [a, b] [a', b'] with
    | true, true => [l = l', ck = ck']
    | _, _ => [False]
  | .it d a sn b, .it d' a' sn' b' => match Nat.beq d d' with
    | true => [a = a', sn = sn', b = b']
    | _ => [False]
  | _, _ => [False]
def eqTm : List (Nat × SV) → List (Nat × SV) → List Prop
  | [], [] => []
  | (t, a) :: r, (t', b) :: s => match Nat.beq t t' with
    | true => eqTop a b ++ eqTm r s
    | false => [False]
  | _, _ => [False]
def eqMem : List (Nat × Chunk) → List (Nat × Chunk) → List Prop
  | [], [] => []
  | (t, a) :: r, (t', b) :: s => match Nat.beq t t' with
    | true => eqC a b ++ eqMem r s
    | false => [False]
  | _, _ => [False]
def eqSt (s s' : St) : List Prop := eqTm s.tm s'.tm ++ eqMem s.mem s'.mem

def atHead (A : Ann) (s : St) (q : A.ι → Prop) : Prop := forceD s fun s => forceD (weaken A s) fun s => ∃ x : A.ι, andL (eqSt s (A.F x) ++ [A.p x, q x])

def atHeadO (A : Option Ann) (s : St) (q : Nat → Prop) : Prop :=
  match A with
  | some A => atHead A s (fun y => q (A.μ y))
  | none => False

/-- A loop that is gone through at most so often: what its test comes to must be plain. -/
def unroll (k : Nat) (kt km : List Nat) : Ann := ⟨Unit, fun _ => ⟨[], []⟩, fun _ => False, fun _ => 0, kt, km, List.replicate k (0, 0, 0, []), fun _ _ => none⟩
/-- Is a key among these? -/
def inR (g n k : Nat) : Bool := Nat.ble g k && Nat.blt k (g + n)
/-- The same, so that the list is written out ahead of what follows. -/
def dropK (g n : Nat) : List (Nat × Chunk) → (List (Nat × Chunk) → Prop) → Prop
  | [], k => k []
  | (x, c) :: r, k => match inR g n x with
    | true => dropK g n r k
    | false => dropK g n r (fun m => k ((x, c) :: m))
def appK (b : List (Nat × Chunk)) : List (Nat × Chunk) → (List (Nat × Chunk) → Prop) → Prop
  | [], k => dropK 0 0 b k
  | x :: r, k => appK b r (fun m => k (x :: m))
def forceL : List (Nat × SV) → (List (Nat × SV) → Prop) → Prop
  | [], k => k []
  | (x, c) :: r, k => forceL r (fun m => k ((x, c) :: m))
def forceS (s : St) (k : St → Prop) : Prop := forceL s.tm (fun t => dropK 0 0 s.mem (fun m => k ⟨t, m⟩))

def memN (n : Nat) : List Nat → Bool
  | [] => false
  | k :: r => match Nat.beq k n with
    | true => true
    | false => memN n r
mutual
/-- The names of memory in a value. -/
def refsV : SV → List Nat
  | .ptr c _ => [c]
  | .ptx c _ => [c]
  | .rptr c _ _ _ _ => [c]
  | .osl c _ => [c]
  | .otl c _ _ _ => [c]
  | .mpp c => [c]
  | .itp c => [c]
  | .agg cs => refsL cs
  | .tup cs => refsL cs
  | .fn _ cs => refsL cs
  | _ => []
def refsL : List SV → List Nat
  | [] => []
  | v :: r => refsV v ++ refsL r
end
def reachM (m : List (Nat × Chunk)) : Nat → List Nat → List Nat → List Nat
  | 0, _, acc => acc
  | _, [], acc => acc
  | n + 1, c :: r, acc => match memN c acc with
    | true => reachM m n r acc
    | false => match lkO m c with
      | some (.box _ cs) => reachM m n (refsL cs ++ r) (c :: acc)
      | some (.gh v) => reachM m n (refsV v ++ r) (c :: acc)
      | some (.it d _ _ _) => reachM m n (d :: r) (c :: acc)
      | some _ => reachM m n r (c :: acc)
      | none => reachM m n r acc
def ghosts : List (Nat × Chunk) → List Nat
  | [] => []
  | (k, .gh _) :: r => k :: ghosts r
  | _ :: r => ghosts r
def refsT (tm : List (Nat × SV)) : List Nat → List Nat
  | [] => []
  | t :: r => refsV (lk .any tm t) ++ refsT tm r
def slotsOf : List (Nat × SV) → List Nat → List Nat
  | [], acc => acc
  | (t, _) :: r, acc => match memN t acc with
    | true => slotsOf r acc
    | false => slotsOf r (t :: acc)
/-- Where all is plain: the slots that a loop finds when it is come to; these alone, and what can be reached from them, are kept. -/
def slots0 (pl : Bool) (s : St) : List Nat :=
  match pl with
  | true => slotsOf s.tm []
  | false => []
/-- What it keeps from one time to the next; everything, if no slot is named. -/
def keepS (A : Ann) (ks : List Nat) (s : St) : St :=
  match A.kt with
  | [] => match ks with
    | [] => s
    | _ => match reachM s.mem 100000 (refsT s.tm ks ++ ghosts s.mem) [] with
      | km => ⟨keepT s km ks, keepM s.mem km km⟩
  | _ => ⟨keepT s A.km A.kt, keepM s.mem A.km A.km⟩
def unrollL (A : Ann) (ks : List Nat) (f : St → (Ex → St → Prop) → Prop) (Q : Ex → St → Prop) : Nat → St → Prop
  | 0, _ => False
  | k + 1, s => f s (fun e s => match e with
    | .normal => forceS (keepS A ks s) (fun s => unrollL A ks f Q k s)
    | e => Q e s)
def exitOf : Code → Option Nat
  | .exit id => some id
  | _ => none
def plainTest (An : Nat → Option Ann) (b : Code) : Bool :=
  match exitOf b with
  | some id => match An (3000 + id) with
    | some _ => true
    | none => false
  | none => false

/-! ### Calls that are gone through in place -/
/-- An iterator's next step: whichever entry has not been seen, or the end. -/
def nextT : Tr := fun _ as m K => match as with
  | [.itp c] => match lkO m c with
    | some (.it d since sn last) => match lkO m d, roK c with
      | some (.mp _ kk vk l ck), false => Ob (since = ck ∧ last = ck) ∧
        (∀ j, j < l.length → memN (mpS l j) sn = false → mpAt l (mpS l j) = some (l.getD j .any) → K (.tup [.tt, coerce kk (elCell l j 0), coerce vk (elCell l j 1)]) ((c, .it d since (mpS l j :: sn) ck) :: m)) ∧
        ((∀ j, j < l.length → memN (mpS l j) sn = true) → K (.tup [.ff]) m)
      | _, _ => False
    | _ => False
  | _ => False
/-- The function that an operation calls, if it is gone through in place; its arguments. -/
def inlOf (cx : Cx) (g : Operand → SV) (o : Oper) : Option (Tr × List SV) :=
  match o.op with
  | .call c => match c.callee with
    | .value f => match g f with
      | .fn f caps => match lkO cx.inl f with
        | some T => some (T, (c.args.toList.map g) ++ caps)
        | none => none
      | _ => none
    | _ => none
  | .next it false => match g it with
    | .itp c => some (nextT, [.itp c])
    | _ => none
  | _ => none

/-- Where the keys begin under which the slots are kept while a call runs. -/
def goff (cx : Cx) (d : Option Nat) (id i : Nat) : Nat :=
  match d with
  | some d => (cx.off + d + 1) * 10000
  | none => (cx.off + (1000 + 20 * id + i) + 1) * 10000

def ghostR (g : Nat) (tm : List (Nat × SV)) : Nat → List (Nat × Chunk)
  | 0 => []
  | t + 1 => match lkO tm t with
    | some v => (g + t, .gh v) :: ghostR g tm t
    | none => ghostR g tm t

def noR (g n : Nat) : List (Nat × Chunk) → Bool
  | [] => true
  | (k, _) :: r => match inR g n k with
    | true => false
    | false => noR g n r
def dropR (g n : Nat) : List (Nat × Chunk) → List (Nat × Chunk)
  | [] => []
  | (k, c) :: r => match inR g n k with
    | true => dropR g n r
    | false => (k, c) :: dropR g n r
def restT (g : Nat) (m : List (Nat × Chunk)) : Nat → Option (List (Nat × SV))
  | 0 => some []
  | t + 1 => match restT g m t with
    | some tm => match lkO m (g + t) with
      | some (.gh v) => some ((t, v) :: tm)
      | none => some tm
      | _ => none
    | none => none
def putT (d : Option Nat) (v : SV) (tm : List (Nat × SV)) : List (Nat × SV) :=
  match d with
  | some d => (d, v) :: tm
  | none => tm

/-- Behind a call that was gone through in place. -/
def behind (g n : Nat) (d : Option Nat) (v : SV) (m : List (Nat × Chunk)) (K : St → Prop) : Prop :=
  forceM m fun m => match restT g m n with
  | some tm => dropK g n m (fun m => K ⟨putT d v tm, m⟩)
  | none => False

def inlAt (n : Nat) (s : St) (d : Option Nat) (T : Tr) (as : List SV) (g : Nat) (K : St → Prop) : Prop :=
  forceD s fun s => match noR g n s.mem with
  | true => appK s.mem (ghostR g s.tm n) (fun m0 => T (g + 1000) as m0 (fun v m => behind g n d v m K))
  | false => False

/-- The operations of a region, in the order of the text. -/
def wpRI (cx : Cx) (id : Nat) (all : List Oper) (K : St → Prop) : List Oper → Nat → St → Prop
  | [], _, s => K s
  | o :: r, i, s => match inlOf cx (ev s.tm) o with
    | some (T, as) => match dOk cx o.dst, wantB all s.tm o with
      | true, some true => inlAt cx.nt s o.dst T as (goff cx o.dst id i) (fun s => wpRI cx id all K r (i + 1) s)
      | true, some false => wpRI cx id all K r (i + 1) (upd s o.dst .und [])
      | _, _ => False
    | none => wpR cx all (fun s _ => wpRI cx id all K r (i + 1) s) [o] i s []

/-! ### .. in a region that draws its order: such a call parts it -/
def pairB (all : List Oper) (b : List Nat) (fs : List (Nat × Eff)) (i j : Nat) : Bool :=
  (b.getD j 0).testBit i || (match all[i]?, all[j]?, lkO fs i, lkO fs j with
    | some oi, some oj, some ei, some ej => apartE all oi oj ei ej
    | _, _, _, _ => false)
/-- May a part's operations be carried out in whatever order they may? -/
def indS (all : List Oper) (b : List Nat) (lo n : Nat) (fs : List (Nat × Eff)) : Bool :=
  (List.range n).all fun j => (List.range j).all fun i => pairB all b fs (lo + i) (lo + j)
/-- All of the part stand ahead of this one, and all behind it wait for it. -/
def barB (b : List Nat) (lo c n : Nat) : Bool :=
  ((List.range (c - lo)).all fun i => (b.getD c 0).testBit (lo + i)) && (List.range n).all fun j => Nat.ble j c || (b.getD j 0).testBit c
def edgB (all : List Oper) : Bool := all.zipIdx.all fun (o, j) => noSel o.op && edgesOk o j

/-! .. and operations that neither stand ahead of it nor wait for it: they read no memory of the function's own, and write none. -/
/-- The operations behind place c that don't wait for it (false), or wait for it (true). -/
def pickZ (b : List Nat) (c : Nat) (q : Bool) : List Oper → Nat → List (Nat × Oper)
  | [], _ => []
  | o :: r, j => match (b.getD j 0).testBit c, q with
    | true, true => (j, o) :: pickZ b c q r (j + 1)
    | false, false => (j, o) :: pickZ b c q r (j + 1)
    | _, _ => pickZ b c q r (j + 1)
def wpZ (cx : Cx) (all : List Oper) (Q : St → List (Nat × Eff) → Prop) : List (Nat × Oper) → St → List (Nat × Eff) → Prop
  | [], s, fs => Q s fs
  | (j, o) :: r, s, fs => wpR cx all (fun s fs => wpZ cx all Q r s fs) [o] j s fs
def dstsZ : List (Nat × Oper) → List Nat
  | [] => []
  | (_, o) :: r => o.dst.toList ++ dstsZ r
def looksZ (all : List Oper) : List (Nat × Oper) → List Nat
  | [] => []
  | (_, o) :: r => looks all o ++ looksZ all r
def numsZ : List (Nat × Oper) → List Nat
  | [] => []
  | (j, _) :: r => j :: numsZ r
/-- None looks at what it, or one behind it, writes; none writes what one behind it writes. -/
def ordZ (all : List Oper) : List (Nat × Oper) → Bool
  | [] => true
  | (_, o) :: r => disj (looks all o) (o.dst.toList ++ dstsZ r) && disj o.dst.toList (dstsZ r) && ordZ all r
def clTs (tm : List (Nat × SV)) : List Nat → Bool
  | [] => true
  | t :: r => closed (lk .any tm t) && clTs tm r
def pureZ (zf : List (Nat × Oper)) (fs : List (Nat × Eff)) : Bool := zf.all fun x => match lkO fs x.1 with
  | some e => e.ch.isEmpty && e.rd.isEmpty
  | none => false
def pairsB (all : List Oper) (b : List Nat) (fs : List (Nat × Eff)) : List Nat → Bool
  | [] => true
  | i :: r => (r.all fun j => pairB all b fs i j) && pairsB all b fs r
/-- May these be carried out ahead of the call, or behind it? -/
def flB (all : List Oper) (b : List Nat) (lo c : Nat) (o : Oper) (zf : List (Nat × Oper)) (s : St) (fs : List (Nat × Eff)) : Bool :=
  ((List.range (c - lo)).all fun i => (b.getD c 0).testBit (lo + i)) && (pairsB all b fs (List.range' lo (c - lo) ++ numsZ zf) && (pureZ zf fs && (ordZ all zf &&
    (clTs s.tm (looksZ all zf ++ dstsZ zf) && (disj (dstsZ zf) (looks all o ++ o.dst.toList) && disj (looksZ all zf) o.dst.toList)))))
def maskT : List Nat → List (Nat × SV) → List (Nat × SV)
  | [], tm => tm
  | t :: r, tm => (t, .any) :: maskT r tm
def preT (tm0 : List (Nat × SV)) : List Nat → List (Nat × SV) → List (Nat × SV)
  | [], tm => tm
  | t :: r, tm => (t, lk .any tm0 t) :: preT tm0 r tm
def wpFl (cx : Cx) (id : Nat) (all : List Oper) (b : List Nat) (K : St → Prop) (o : Oper) (T : Tr) (as : List SV) (zf zb : List (Nat × Oper)) (lo c : Nat) (s : St) (fs : List (Nat × Eff)) : Prop :=
  wpZ cx all (fun s1 ffs => match flB all b lo c o zf s1 ffs with
    | true => inlAt cx.nt ⟨maskT (dstsZ zf) s.tm, s.mem⟩ o.dst T as (goff cx o.dst id c) (fun s' =>
      wpZ cx all (fun s3 gs => match pairsB all b gs (numsZ zf ++ numsZ zb) with
        | true => K s3
        | false => False) zb ⟨preT s1.tm (looksZ all zf ++ dstsZ zf) s'.tm, s'.mem⟩ ffs)
    | false => False) zf s fs
/-- A function that has a contract: where the order is drawn, that is taken. -/
def inlD (cx : Cx) (g : Operand → SV) (o : Oper) : Option (Tr × List SV) :=
  match o.op with
  | .call c => match c.callee with
    | .value f => match g f with
      | .fn f _ => match lkO cx.fn f with
        | some _ => none
        | none => inlOf cx g o
      | _ => inlOf cx g o
    | _ => inlOf cx g o
  | _ => inlOf cx g o

def wpRD (cx : Cx) (id : Nat) (all : List Oper) (b : List Nat) (K : St → Prop) : List Oper → Nat → Nat → St → List (Nat × Eff) → Prop
  | [], lo, i, s, fs => match indS all b lo (i - lo) fs with
    | true => K s
    | false => False
  | o :: r, lo, i, s, fs => match inlD cx (ev s.tm) o with
    | some (T, as) => match dOk cx o.dst, wantB all s.tm o with
      | true, some true => match indS all b lo (i - lo) fs, barB b lo i all.length with
        | true, true => inlAt cx.nt s o.dst T as (goff cx o.dst id i) (fun s => wpRD cx id all b K r (i + 1) (i + 1) s [])
        | true, false => wpFl cx id all b K o T as (pickZ b i false r (i + 1)) (pickZ b i true r (i + 1)) lo i s fs
        | _, _ => False
      | true, some false => wpRD cx id all b K r lo (i + 1) (upd s o.dst .und []) ((i, ⟨none, .und, [], []⟩) :: fs)
      | _, _ => False
    | none => wpR cx all (fun s fs => wpRD cx id all b K r lo (i + 1) s fs) [o] i s fs

/-- The number of a code's first region. -/
def firstR : Code → Option Nat
  | .region id _ _ => some id
  | .seq a _ => firstR a
  | .block _ c => firstR c
  | .loop c => firstR c
  | _ => none
/-- Where roads join: what holds ahead of a code, by its first region's number. -/
def joinA (An : Nat → Option Ann) (c : Code) : Option Ann :=
  match firstR c with
  | some k => An (4000 + k)
  | none => none

/-- What holds at heads within a loop, or behind a join: it may tell of the one around. -/
def subA (An S : Nat → Option Ann) : Nat → Option Ann := fun k => match S k with
  | some B => some B
  | none => An k

/-- Where all is plain: is there an element? -/
def plNe (pl : Bool) (l : List SV) : Bool :=
  match pl with
  | true => match l with
    | _ :: _ => true
    | [] => false
  | false => false

/-- The first place on the way through a row of codes where roads join. -/
def spineJ (An : Nat → Option Ann) : Code → Option (Nat × Ann)
  | .seq a b => match firstR a with
    | some k => match An (4000 + k) with
      | some A => some (k, A)
      | none => spineJ An b
    | none => spineJ An b
  | c => match firstR c with
    | some k => match An (4000 + k) with
      | some A => some (k, A)
      | none => none
    | none => none
def isR (k : Nat) (c : Code) : Bool :=
  match firstR c with
  | some j => Nat.beq j k
  | none => false
/-- The rest of a row of codes, from a region on. -/
def findT (k : Nat) : Code → Option Code
  | .seq _ b => match isR k b with
    | true => some b
    | false => findT k b
  | _ => none

mutual
/-- Code, from a state that is written out. 'bl': the block in which it is; 'An': what holds at the loops of blocks, at labels (1000 and on), and where roads join (4000 and on); 'J': a place at which roads join, that is come to, and what is asked there; 'sc': what is asked of a scope. -/
def wpJ (cx : Cx) (sc : Code → Nat → St → (Ex → St → Prop) → Prop) : Code → (Nat → Option Ann) → Option (Nat × (St → Prop)) → Nat → St → (Ex → St → Prop) → Prop
  | .skip, _, _, _, s, Q => Q .normal s
  | .label _, _, _, _, s, Q => Q .normal s
  | .region id ops draw, _, _, _, s, Q => match draw with
    | false => wpRI cx id ops.toList (fun s => Q .normal s) ops.toList 0 s
    | true => match edgB ops.toList with
      | true => wpRD cx id ops.toList (befN ops.toList []) (fun s => Q .normal s) ops.toList 0 0 s []
      | false => False
  | .seq a b, An, J, bl, s, Q => match J with
    | some (k, hk) => match isR k b with
      | true => wpJ cx sc a An none bl s (fun e s => match e with
        | .normal => hk s
        | e => Q e s)
      | false => wpJ cx sc a An none bl s (fun e s => match e with
        | .normal => forceD s fun s => wpJ cx sc b An (some (k, hk)) bl s Q
        | e => Q e s)
    | none => match spineJ An b with
      | some (k, A) => match isR k b with
        | true => wpJ cx sc a An none bl s (fun e s => match e with
            | .normal => atHead A s (fun _ => True)
            | e => Q e s) ∧ ∀ x : A.ι, A.p x → wpJ cx sc b (subA An (A.sub x)) none bl (A.F x) Q
        | false => wpJ cx sc a An none bl s (fun e s => match e with
            | .normal => forceD s fun s => wpJ cx sc b An (some (k, fun s => atHead A s (fun _ => True))) bl s Q
            | e => Q e s) ∧ ∀ x : A.ι, A.p x → wpAt cx sc b k (subA An (A.sub x)) bl (A.F x) Q
      | none => wpJ cx sc a An none bl s (fun e s => match e with
        | .normal => forceD s fun s => wpJ cx sc b An (some (999999999, fun _ => False)) bl s Q
        | e => Q e s)
  | .cond c a b, An, _, bl, s, Q => match ev s.tm c with
    | .tt => wpJ cx sc a An none bl s Q
    | .ff => wpJ cx sc b An none bl s Q
    | .bool x => match c with
      | .tmp t => match plainTest An b with
        | true => match x with
          | true => wpJ cx sc a An none bl ⟨(t, .tt) :: s.tm, s.mem⟩ Q
          | false => wpJ cx sc b An none bl ⟨(t, .ff) :: s.tm, s.mem⟩ Q
        | false => brP x (wpJ cx sc a An none bl ⟨(t, .tt) :: s.tm, s.mem⟩ Q) (wpJ cx sc b An none bl ⟨(t, .ff) :: s.tm, s.mem⟩ Q)
      | _ => False
    | .nb l => match c with
      | .tmp t => match plNe cx.pl l with
        | true => wpJ cx sc b An none bl ⟨(t, .ff) :: s.tm, s.mem⟩ Q
        | false => (l = [] → wpJ cx sc a An none bl ⟨(t, .tt) :: s.tm, s.mem⟩ Q) ∧ wpJ cx sc b An none bl ⟨(t, .ff) :: s.tm, s.mem⟩ Q
      | _ => False
    | _ => False
  | .block id c, An, _, _, s, Q => wpJ cx sc c An none id s (fun e s => match e with
    | .exit j => match Nat.beq j id with
      | true => Q .normal s
      | false => Q (.exit j) s
    | e => Q e s)
  | .loop c, An, _, bl, s, Q => match An bl with
    | some A => atHead A s (fun _ => True) ∧ ∀ x : A.ι, A.p x → wpJ cx sc c (subA An (A.sub x)) none bl (A.F x) (fun e s => match e with
      | .normal => atHead A s (fun y => A.μ y < A.μ x)
      | e => Q e s)
    | none => match An (3000 + bl) with
      | some A => unrollL A (slots0 cx.pl s) (wpJ cx sc c An none bl) Q A.nc.length s
      | none => False
  | .scope c, _, _, bl, s, Q => sc c bl s Q
  | .exit id, _, _, _, s, Q => Q (.exit id) s
  | .goto l, _, _, _, s, Q => Q (.goto l) s
  | .ret, _, _, _, s, Q => Q .ret s
  | _, _, _, _, _, _ => False
/-- The rest of it, from a region on. -/
def wpAt (cx : Cx) (sc : Code → Nat → St → (Ex → St → Prop) → Prop) : Code → Nat → (Nat → Option Ann) → Nat → St → (Ex → St → Prop) → Prop
  | .seq _ b, k, An, bl, s, Q => match isR k b with
    | true => wpJ cx sc b An none bl s Q
    | false => wpAt cx sc b k An bl s Q
  | _, _, _, _, _, _ => False
end
def wpC (cx : Cx) (An : Nat → Option Ann) (sc : Code → Nat → St → (Ex → St → Prop) → Prop) (c : Code) (bl : Nat) (s : St) (Q : Ex → St → Prop) : Prop := wpJ cx sc c An none bl s Q

def noSc : Code → Nat → St → (Ex → St → Prop) → Prop := fun _ _ _ _ => False

/-- A jump to a label: what holds there must hold. -/
def gotoQ (An : Nat → Option Ann) (labs : List Nat) (q : Nat → Prop) (Q : Ex → St → Prop) : Ex → St → Prop := fun e s =>
  match e with
  | .goto l => match labs.contains l with
    | true => atHeadO (An (1000 + l)) s q
    | false => False
  | e => Q e s

def passes (cx : Cx) (An : Nat → Option Ann) (labs : List Nat) (c : Code) (bl : Nat) (Q : Ex → St → Prop) : List Nat → Prop
  | [] => True
  | l :: r => (match An (1000 + l), findLabel c l with
    | some A, some rest => ∀ x : A.ι, A.p x → wpC cx An noSc rest bl (A.F x) (gotoQ An labs (fun n => n < A.μ x) Q)
    | _, _ => False) ∧ passes cx An labs c bl Q r

/-- A scope: from each label on, what holds there. -/
def scopeH (cx : Cx) (An : Nat → Option Ann) (labs : List Nat) : Code → Nat → St → (Ex → St → Prop) → Prop := fun c bl s Q =>
  wpC cx An noSc c bl s (gotoQ An labs (fun _ => True) Q) ∧ passes cx An labs c bl Q labs

def resOf (cx : Cx) (s : St) : ResultVar → SV
  | .tmp t => lk .any s.tm t
  | .cell a t => match lk .any s.tm a, tyOf cx t with
    | .ptr c off, some L => match lkO s.mem c with
      | some (.box _ cs) => match Nat.ble (off + L.ks.length) cs.length with
        | true => ldAt L cs off
        | false => .any
      | _ => .any
    | _, _ => .any

def resB (cx : Cx) (s : St) : ResultVar → Bool
  | .tmp _ => true
  | .cell a t => match lk .any s.tm a, tyOf cx t with
    | .ptr c off, some L => match lkO s.mem c with
      | some (.box _ cs) => Nat.ble (off + L.ks.length) cs.length
      | _ => false
    | _, _ => false
def resBs (cx : Cx) (s : St) : List ResultVar → Bool
  | [] => true
  | r :: rs => match resB cx s r with
    | true => resBs cx s rs
    | false => false

mutual
/-- A pointer to a box of the function's own, as one to memory that nobody writes any more. -/
def pinV (cx : Cx) (m : List (Nat × Chunk)) : SV → SV
  | .ptr c off => match lkO m c with
    | some (.box t cs) => match tyOf cx t with
      | some L => match Nat.beq off 0 && !(roK c), closedL cs, kBs L.ks cs with
        | true, true, true => .ep L.ks [.agg cs] 0 0
        | _, _, _ => .ptr c off
      | none => .ptr c off
    | _ => .ptr c off
  | .tup vs => .tup (pinL cx m vs)
  | v => v
def pinL (cx : Cx) (m : List (Nat × Chunk)) : List SV → List SV
  | [] => []
  | v :: r => pinV cx m v :: pinL cx m r
end

def pinR (cx : Cx) (m : List (Nat × Chunk)) (v : SV) : SV :=
  match closed (pinV cx m v) with
  | true => pinV cx m v
  | false => v

def retSV (cx : Cx) (f : Func) (s : St) : SV :=
  pinR cx s.mem (resolve s.mem (match f.results.toList with
    | [r] => resOf cx s r
    | rs => .tup (rs.map (resOf cx s))))

/-- What a lent pointer is, where it is lent to. -/
def lpT : SV → SV
  | .lp _ _ => .ptr 9990 0
  | v => v
def lpM : List SV → List (Nat × Chunk)
  | [] => []
  | .lp t cs :: _ => [(9990, .box t cs)]
  | _ :: r => lpM r
def noOwn : List SV → Bool
  | [] => true
  | .own _ _ _ :: _ => false
  | _ :: r => noOwn r
/-- No two of them are lent. -/
def lp1 : List SV → Bool
  | [] => true
  | .lp _ cs :: r => noOwn cs && lp0 r
  | _ :: r => lp1 r
where lp0 : List SV → Bool
  | [] => true
  | .lp _ _ :: _ => false
  | _ :: r => lp0 r

def args0 : Nat → List SV → List (Nat × SV)
  | _, [] => []
  | i, v :: r => (i, v) :: args0 (i + 1) r

def eqR : SV → SV → List Prop
  | .tup a, .tup b => eqRs a b
  | a, b => eqTop a b
where eqRs : List SV → List SV → List Prop
  | [], [] => []
  | a :: r, b :: s => eqTop a b ++ eqRs r s
  | _, _ => [False]

def rawI (cx : Cx) (f : Func) (s : St) : SV :=
  match f.results.toList with
  | [r] => resOf cx s r
  | rs => .tup (rs.map (resOf cx s))
/-- A slice of the function's own is handed over. -/
def ownQ (cx : Cx) (m : List (Nat × Chunk)) (v r : SV) (j : Option Nat) (e : Nat) (ks : List CK) (l : List SV) : Prop :=
  match ownGet j v with
  | .osl c ver => match lkO m c with
    | some (.row v' e' ks' l') => match Nat.beq v' ver && Nat.beq e' e && cksEq ks' ks && !((names (ownPut j .any v)).contains c) with
      | true => andL (eqR (pinR cx m (resolve m (ownPut j .any v))) (ownPut j .any r)) ∧ l' = l
      | false => False
    | _ => False
  | .nilsl => match j with
    | none => l = []
    | some j => match closed (ownPut (some j) .any v) with
      | true => andL (eqR (ownPut (some j) .any v) (ownPut (some j) .any r)) ∧ l = []
      | false => False
  | _ => False
mutual
/-- What is handed over anew: plain values, and slices of the function's own. -/
def frE (m : List (Nat × Chunk)) : SV → SV → List Prop
  | .osl c ver, .sl ks l => match lkO m c with
    | some (.row v _ ks' l') => match Nat.beq v ver && (flatK ks' && cksEq ks' ks) with
      | true => [l' = l]
      | false => [False]
    | _ => [False]
  | .osl c ver, .csl b ks l => match lkO m c with
    | some (.row v _ ks' l') => match Nat.beq v ver && (flatK ks' && cksEq ks' ks) with
      | true => [b = true → l' = l]
      | false => [False]
    | _ => [False]
  | .nilsl, .sl _ l => [l = []]
  | .nilsl, .csl b _ l => [b = true → l = []]
  | .sl _ _, .csl b _ _ => [b = false]
  | .agg a, .agg b => frEs m a b
  | .tup a, .tup b => frEs m a b
  | v, r => match plainR v && plainR r with
    | true => eqTop v r
    | false => [False]
def frEs (m : List (Nat × Chunk)) : List SV → List SV → List Prop
  | [], [] => []
  | a :: r, b :: s => frE m a b ++ frEs m r s
  | _, _ => [False]
end
def endQ (cx : Cx) (f : Func) (s : St) (r : SV) : Prop :=
  match resBs cx s f.results.toList with
  | true => match frOf r with
   | some r0 => match closed r0 with
     | true => andL (frE s.mem (rawI cx f s) r0)
     | false => False
   | none => match ownAt r with
    | none => andL (eqR (retSV cx f s) r)
    | some (j, e, ks, l) => ownQ cx s.mem (rawI cx f s) r j e ks l
  | false => False

/-- A function with what holds at its loops' heads: it hands back this. -/
def wpF (cx : Cx) (An : Nat → Option Ann) (labs : List Nat) (f : Func) (args : List SV) (r : SV) : Prop :=
  match f.body with
  | some c => match closedAL args && lp1 args, closed r with
    | true, true => wpC cx An (scopeH cx An labs) c 0 ⟨args0 0 (args.map lpT), lpM args⟩ (fun e s => match e with
      | .ret => endQ cx f s r
      | .normal => endQ cx f s r
      | _ => False)
    | _, _ => False
  | none => False

def endI (cx : Cx) (f : Func) (s : St) (K : SV → List (Nat × Chunk) → Prop) : Prop :=
  match resBs cx s f.results.toList with
  | true => forceV (rawI cx f s) fun v => forceM s.mem fun m => K v m
  | false => False
/-- A function that is gone through where it is called. -/
def wpI (cx : Cx) (An : Nat → Option Ann) (labs : List Nat) (f : Func) (as : List SV) (m : List (Nat × Chunk)) (K : SV → List (Nat × Chunk) → Prop) : Prop :=
  match f.body with
  | some c => wpC cx An (scopeH cx An labs) c 0 ⟨args0 0 as, m⟩ (fun e s => match e with
    | .ret => endI cx f s K
    | .normal => endI cx f s K
    | _ => False)
  | none => False
end Go.Rx

