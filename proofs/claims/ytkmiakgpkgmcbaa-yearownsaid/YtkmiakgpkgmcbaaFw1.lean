/- The framework, part 1: abstract values and the symbolic executor: what a function's code comes to, as a proposition without a program. -/
import GoSem.Claims
import Derived.WalkKit
import Derived.Orders
import Derived.KernelRfl
import Derived.Laws.ComplexArith
namespace Go.Rx

/-- The kind of a cell. -/
inductive CK where
  | int (k : IntKind)
  | bool
  | str
  | flt
  | cpx
  | sl (ks : List CK)
  | other

/-- Abstract values. -/
inductive SV where
  | any
  | und
  | int (k : IntKind) (n : Int)
  | bool (b : Bool)
  | tt
  | ff
  | str (s : List UInt8)
  | flt (b : Nat)
  | cpx (x y : Nat)
  | agg (cs : List SV)
  | tup (vs : List SV)
  | ptr (c off : Nat)
  | ptx (c off : Nat)
  | rptr (c sz i off ver : Nat)
  | osl (c ver : Nat)
  | sl (ks : List CK) (l : List SV)
  | ep (ks : List CK) (l : List SV) (i off : Nat)
  | oep (b : Bool) (ks : List CK) (l : List SV) (i off : Nat)
  | nilsl
  | nilp
  | fn (f : Nat) (caps : List SV)
  | nb (l : List SV)
  | fsl (ks : List CK) (l : List SV)
  | lp (t : Nat) (cs : List SV)
  | own (e : Nat) (ks : List CK) (l : List SV)
  | mpp (c : Nat)
  | itp (c : Nat)
  | otl (c sz k ver : Nat)
  | csl (b : Bool) (ks : List CK) (l : List SV)

/-- Memory of a function's own. -/
inductive Chunk where
  | box (t : Nat) (cs : List SV)
  | row (ver e : Nat) (ks : List CK) (l : List SV)
  | froz (ver : Nat) (ks : List CK) (l : List SV)
  | gh (v : SV)
  | mp (t : Nat) (kk vk : CK) (l : List SV) (ck : Nat)
  | it (d since : Nat) (sn : List Nat) (last : Nat)

/-- What is known of a type. -/
inductive TK where
  | int (k : IntKind)
  | bool
  | str
  | flt
  | cpx
  | struct (fl : List (Nat × Nat))
  | arr (n e : Nat)
  | sl (e : Nat)
  | ptr (e : Nat)
  | mp (k e : Nat)
  | fn
  | tup
def TK.agg : TK → Bool
  | .struct _ => true
  | .arr _ _ => true
  | _ => false

structure TyL where
  k : TK
  ks : List CK
  bytes : Nat
  zero : List SV
  eq : Bool

/-- A contract. -/
structure Con where
  pre : List SV → Option Prop
  res : List SV → SV

/-- A function that is gone through where it is called: from its arguments and the memory; what must hold of its result and the memory behind it. The number: where the keys of its own memory begin. -/
abbrev Tr := Nat → List SV → List (Nat × Chunk) → (SV → List (Nat × Chunk) → Prop) → Prop

structure Cx where
  nt : Nat
  ty : List (Nat × TyL)
  fn : List (Nat × Con)
  lit : Bool
  off : Nat
  inl : List (Nat × Tr)
  pl : Bool

structure Ob (p : Prop) : Prop where
  out : p

def lk {α : Type} (d : α) : List (Nat × α) → Nat → α
  | [], _ => d
  | (k, v) :: r, n => match Nat.beq k n with
    | true => v
    | false => lk d r n

def lkO {α : Type} : List (Nat × α) → Nat → Option α
  | [], _ => none
  | (k, v) :: r, n => match Nat.beq k n with
    | true => some v
    | false => lkO r n

structure St where
  tm : List (Nat × SV)
  mem : List (Nat × Chunk)

def ofVal : Value → SV
  | .int k n => .int k n
  | .bool true => .tt
  | .bool false => .ff
  | .string s => .str s.data.toList
  | .float .f64 b => .flt b
  | .complex .f64 x y => .cpx x y
  | .slice none 0 0 => .nilsl
  | .pointer none => .nilp
  | _ => .any

def ev (tm : List (Nat × SV)) : Operand → SV
  | .tmp t => lk .any tm t
  | .const v => ofVal v
  | .func f => .fn f []
  | .global _ => .any

def SV.toInt : SV → Int
  | .int _ n => n
  | _ => 0
def SV.toBool : SV → Bool
  | .bool b => b
  | .tt => true
  | _ => false
def SV.toStr : SV → List UInt8
  | .str s => s
  | _ => []
def SV.toFlt : SV → Nat
  | .flt b => b
  | _ => 0
def SV.toRe : SV → Nat
  | .cpx x _ => x
  | _ => 0
def SV.toIm : SV → Nat
  | .cpx _ y => y
  | _ => 0
def SV.toSl : SV → List SV
  | .sl _ l => l
  | _ => []
def SV.cells : SV → List SV
  | .agg cs => cs
  | v => [v]

/-- A cell's value in the form that its kind tells. -/
def coerce : CK → SV → SV
  | .int k, v => .int k v.toInt
  | .bool, v => .bool v.toBool
  | .str, v => .str v.toStr
  | .flt, v => .flt v.toFlt
  | .cpx, v => .cpx v.toRe v.toIm
  | .sl ks, v => .sl ks v.toSl
  | .other, v => v

/-- Has a value the form that a kind tells? -/
def kOk : CK → SV → Prop
  | .int k, v => ∃ n, v = .int k n
  | .bool, v => v = .tt ∨ v = .ff ∨ ∃ b, v = .bool b
  | .str, v => ∃ s, v = .str s
  | .flt, v => ∃ b, v = .flt b
  | .cpx, v => ∃ x y, v = .cpx x y
  | .sl ks, v => v = .nilsl ∨ ∃ l, v = .sl ks l
  | .other, _ => True

/-- An element's cells are of their kinds. -/
def shOk (ks : List CK) (e : SV) : Prop := e.cells.length = ks.length ∧ ∀ j, j < ks.length → kOk (ks.getD j .other) (e.cells.getD j .any)

mutual
def ckEq : CK → CK → Bool
  | .int k, .int k' => decide (k = k')
  | .bool, .bool => true
  | .str, .str => true
  | .flt, .flt => true
  | .cpx, .cpx => true
  | .other, .other => true
  | .sl a, .sl b => cksEq a b
  | _, _ => false
def cksEq : List CK → List CK → Bool
  | [], [] => true
  | a :: r, b :: s => ckEq a b && cksEq r s
  | _, _ => false
end

/-- Is a value that is written out of a kind? -/
def kB : CK → SV → Bool
  | .int k, .int k' _ => decide (k = k')
  | .bool, .tt => true
  | .bool, .ff => true
  | .bool, .bool _ => true
  | .str, .str _ => true
  | .flt, .flt _ => true
  | .cpx, .cpx _ _ => true
  | .sl ks, .sl ks' _ => cksEq ks ks'
  | .sl _, .nilsl => true
  | _, _ => false

def elCell (l : List SV) (i off : Nat) : SV := ((l.getD i .any).cells).getD off .any

def andV (k : IntKind) (a b : Int) : Int := k.wrap ((BitVec.ofInt k.bits a &&& BitVec.ofInt k.bits b).toNat)
def orV (k : IntKind) (a b : Int) : Int := k.wrap ((BitVec.ofInt k.bits a ||| BitVec.ofInt k.bits b).toNat)
def xorV (k : IntKind) (a b : Int) : Int := k.wrap ((BitVec.ofInt k.bits a ^^^ BitVec.ofInt k.bits b).toNat)
def shlV (k : IntKind) (a b : Int) : Int := k.wrap (a * 2 ^ (min b.toNat k.bits))
def shrV (k : IntKind) (a b : Int) : Int := a.fdiv (2 ^ (min b.toNat k.bits))
/-- Is it a shift? -/
def isSh : BinOp → Bool
  | .shl => true
  | .shr => true
  | _ => false
/-- Arithmetic. -/
def ar (op : BinOp) (k : IntKind) (a b : Int) : SV :=
  match op with
  | .add => .int k (k.wrap (a + b))
  | .sub => .int k (k.wrap (a - b))
  | .mul => .int k (k.wrap (a * b))
  | .quo => .int k (k.wrap (a.tdiv b))
  | .rem => .int k (a.tmod b)
  | .eql => .bool (decide (a = b))
  | .neq => .bool (!decide (a = b))
  | .lss => .bool (decide (a < b))
  | .leq => .bool (decide (a ≤ b))
  | .gtr => .bool (decide (b < a))
  | .geq => .bool (decide (b ≤ a))
  | .and => .int k (andV k a b)
  | .or => .int k (orV k a b)
  | .xor => .int k (xorV k a b)
  | .shl => .int k (shlV k a b)
  | .shr => .int k (shrV k a b)
  | _ => .any
def arOb (op : BinOp) (b : Int) : Option Prop :=
  match op with
  | .add | .sub | .mul | .eql | .neq | .lss | .leq | .gtr | .geq | .and | .or | .xor => none
  | .quo | .rem => some (Ob (b ≠ 0))
  | .shl | .shr => some (Ob (0 ≤ b))
  | _ => some False

/-- '==' of two cells that are written out. -/
def eqV : SV → SV → Option Bool
  | .bool a, .bool b => some (a == b)
  | .tt, .bool b => some b
  | .ff, .bool b => some (!b)
  | .bool b, .tt => some b
  | .bool b, .ff => some (!b)
  | .tt, .tt => some true
  | .ff, .ff => some true
  | .tt, .ff => some false
  | .ff, .tt => some false
  | _, _ => none
def eqK : CK → SV → SV → Option Bool
  | .int _, .int k a, .int k' b => match decide (k = k') with
    | true => some (decide (a = b))
    | false => none
  | .str, .str a, .str b => some (decide (a = b))
  | .bool, a, b => eqV a b
  | _, _, _ => none
def eqVs : List CK → List SV → List SV → Option Bool
  | [], [], [] => some true
  | [k], [x], [y] => eqK k x y
  | k :: ks, x :: xs, y :: ys => match eqK k x y, eqVs ks xs ys with
    | some a, some b => some (a && b)
    | _, _ => none
  | _, _, _ => none

/-- A row's element, of its cells. -/
def elOf : List SV → SV
  | [u] => u
  | us => .agg us

def setL (cs : List SV) (off : Nat) : List SV → List SV
  | [] => cs
  | v :: r => setL (cs.set off v) (off + 1) r

/-- An element of a row, in which cells are written. -/
def stEl (sz : Nat) (e : SV) (off : Nat) (vs : List SV) : SV :=
  match Nat.beq sz 1 with
  | true => vs.getD 0 .any
  | false => .agg (setL e.cells off vs)

/-- Is a value one cell? -/
def oneB (m : List (Nat × Chunk)) : SV → Bool
  | .any => false
  | .und => false
  | .agg _ => false
  | .tup _ => false
  | .rptr _ _ _ _ _ => false
  | .otl _ _ _ _ => false
  | .lp _ _ => false
  | .own _ _ _ => false
  | .osl c ver => match lkO m c with
    | some (.row v _ _ _) => Nat.beq v ver
    | some (.froz v _ _) => Nat.beq v ver
    | _ => false
  | _ => true
def oneL (m : List (Nat × Chunk)) : List SV → Bool
  | [] => true
  | v :: r => oneB m v && oneL m r
def cellsB (m : List (Nat × Chunk)) : SV → Bool
  | .agg _ => true
  | v => oneB m v

/-- One operation: what it asks, its value, the memory that it writes, the memory that it reads. -/
structure Eff where
  ob : Option Prop
  v : SV
  ch : List (Nat × Chunk)
  rd : List Nat

def Eff.bad : Eff := ⟨some False, .any, [], []⟩
def Eff.val (v : SV) : Eff := ⟨none, v, [], []⟩

/-! ### Words of floats and of complex numbers -/
def fB (op : BinOp) (x y : Nat) : Nat := (floatBits op .f64 x y).getD 0
def fC (op : BinOp) (x y : Nat) : Bool :=
  match op with
  | .eql => FloatKind.f64.format.order x y == some .eq
  | .neq => FloatKind.f64.format.order x y != some .eq
  | .lss => FloatKind.f64.format.order x y == some .lt
  | .leq => FloatKind.f64.format.order x y == some .lt || FloatKind.f64.format.order x y == some .eq
  | .gtr => FloatKind.f64.format.order x y == some .gt
  | .geq => FloatKind.f64.format.order x y == some .gt || FloatKind.f64.format.order x y == some .eq
  | _ => false
def fI (n : Int) : Nat := FloatKind.f64.nearest n
def fTo (k : IntKind) (x : Nat) : Int := (floatToIntVal .f64 x k).getD 0
def fToOk (k : IntKind) (x : Nat) : Prop := (floatToIntVal .f64 x k).isSome = true
def fN (x : Nat) : Nat := Go.Op.negFloat .f64 x
def fOk (op : BinOp) (x y : Nat) : Prop := (floatBits op .f64 x y).isSome = true
def cM (a b c d : Nat) : Nat × Nat := (cMulBits a b c d).getD (0, 0)
def fltBin (op : BinOp) (a b : Nat) : Eff :=
  match op with
  | .add => ⟨some (Ob (fOk .add a b)), .flt (fB .add a b), [], []⟩
  | .sub => ⟨some (Ob (fOk .sub a b)), .flt (fB .sub a b), [], []⟩
  | .mul => ⟨some (Ob (fOk .mul a b)), .flt (fB .mul a b), [], []⟩
  | .quo => ⟨some (Ob (fOk .quo a b)), .flt (fB .quo a b), [], []⟩
  | .eql => .val (.bool (fC .eql a b))
  | .neq => .val (.bool (fC .neq a b))
  | .lss => .val (.bool (fC .lss a b))
  | .leq => .val (.bool (fC .leq a b))
  | .gtr => .val (.bool (fC .gtr a b))
  | .geq => .val (.bool (fC .geq a b))
  | _ => .bad
def cpxBin (op : BinOp) (a b c d : Nat) : Eff :=
  match op with
  | .add => ⟨some (Ob (fOk .add a c ∧ fOk .add b d)), .cpx (fB .add a c) (fB .add b d), [], []⟩
  | .sub => ⟨some (Ob (fOk .sub a c ∧ fOk .sub b d)), .cpx (fB .sub a c) (fB .sub b d), [], []⟩
  | .mul => ⟨some (Ob ((cMulBits a b c d).isSome = true)), .cpx (cM a b c d).1 (cM a b c d).2, [], []⟩
  | .eql => .val (.bool (fC .eql a c && fC .eql b d))
  | .neq => .val (.bool (!(fC .eql a c && fC .eql b d)))
  | _ => .bad

mutual
/-- Does a value say nothing of memory of the function's own? -/
def closed : SV → Bool
  | .ptr _ _ => false
  | .ptx _ _ => false
  | .rptr _ _ _ _ _ => false
  | .osl _ _ => false
  | .otl _ _ _ _ => false
  | .lp _ _ => false
  | .mpp _ => false
  | .itp _ => false
  | .agg cs => closedL cs
  | .tup cs => closedL cs
  | .fn _ cs => closedL cs
  | _ => true
def closedL : List SV → Bool
  | [] => true
  | v :: r => closed v && closedL r
end

mutual
/-- A value in whose place that of the function's own slices stand. -/
def resolve (m : List (Nat × Chunk)) : SV → SV
  | .osl c ver => match lkO m c with
    | some (.row v _ ks l) => match Nat.beq v ver with
      | true => .sl ks l
      | false => .osl c ver
    | some (.froz v ks l) => match Nat.beq v ver with
      | true => .sl ks l
      | false => .osl c ver
    | _ => .osl c ver
  | .agg cs => .agg (resolveL m cs)
  | .tup cs => .tup (resolveL m cs)
  | .fn f cs => .fn f (resolveL m cs)
  | v => v
def resolveL (m : List (Nat × Chunk)) : List SV → List SV
  | [] => []
  | v :: r => resolve m v :: resolveL m r
end

mutual
/-- Which of the function's own slices does a value name? -/
def names : SV → List Nat
  | .osl c _ => [c]
  | .agg cs => namesL cs
  | .tup cs => namesL cs
  | .fn _ cs => namesL cs
  | _ => []
def namesL : List SV → List Nat
  | [] => []
  | v :: r => names v ++ namesL r
end

/-- These slices may be written no more. -/
def freezes (m : List (Nat × Chunk)) : List Nat → List (Nat × Chunk)
  | [] => []
  | c :: r => match lkO m c with
    | some (.row v _ ks l) => (c, .froz v ks l) :: freezes m r
    | _ => freezes m r

def tyOf (cx : Cx) (t : Nat) : Option TyL := lkO cx.ty t

mutual
/-- Does a value hold no address? -/
def plainR : SV → Bool
  | .any => true
  | .int _ _ => true
  | .bool _ => true
  | .tt => true
  | .ff => true
  | .str _ => true
  | .flt _ => true
  | .cpx _ _ => true
  | .nilsl => true
  | .nilp => true
  | .tup cs => plainRs cs
  | .agg cs => plainRs cs
  | _ => false
def plainRs : List SV → Bool
  | [] => true
  | v :: r => plainR v && plainRs r
end

/-- A cell of a lent box: a map of one's own is lent, too. -/
def lendC (m : List (Nat × Chunk)) (v : SV) : SV :=
  match v with
  | .mpp d => match lkO m d with
    | some (.mp ty kk vk l _) => .own ty [kk, vk, .int .i64] l
    | _ => .mpp d
  | v => resolve m v
def lendCs (m : List (Nat × Chunk)) : List SV → List SV
  | [] => []
  | v :: r => lendC m v :: lendCs m r
def namC (v : SV) : List Nat :=
  match v with
  | .mpp d => [d]
  | v => names v
def namCs : List SV → List Nat
  | [] => []
  | v :: r => namC v ++ namCs r
/-- Arguments: a pointer to a box of the caller's own is lent. -/
def lend (m : List (Nat × Chunk)) (v : SV) : SV :=
  match v with
  | .ptr c off => match off with
    | 0 => match lkO m c with
      | some (.box t cs) => .lp t (lendCs m cs)
      | _ => .ptr c off
    | _ => .ptr c off
  | v => resolve m v
def lendL (m : List (Nat × Chunk)) : List SV → List SV
  | [] => []
  | v :: r => lend m v :: lendL m r
def lnames (m : List (Nat × Chunk)) (v : SV) : List Nat :=
  match v with
  | .ptr c off => match off with
    | 0 => match lkO m c with
      | some (.box _ cs) => namCs cs
      | _ => []
    | _ => []
  | v => names v
def lnamesL (m : List (Nat × Chunk)) : List SV → List Nat
  | [] => []
  | v :: r => lnames m v ++ lnamesL m r
def lboxes : List SV → List Nat
  | [] => []
  | .ptr c _ :: r => c :: lboxes r
  | _ :: r => lboxes r
def closedA : SV → Bool
  | .lp _ cs => closedL cs
  | v => closed v
def closedAL : List SV → Bool
  | [] => true
  | v :: r => closedA v && closedAL r
/-- Names of boxes that may be read, and never written. -/
def roK (c : Nat) : Bool := Nat.ble 9990 (c % 10000)

/-- The first slice of a result that is the caller's own from now on. -/
def ownI : List SV → Nat → Option (Nat × Nat × List CK × List SV)
  | [], _ => none
  | v :: r, j => match v with
    | .own e ks l => some (j, e, ks, l)
    | _ => ownI r (j + 1)
def ownAt : SV → Option (Option Nat × Nat × List CK × List SV)
  | .own e ks l => some (none, e, ks, l)
  | .tup rs => match ownI rs 0 with
    | some (j, e, ks, l) => some (some j, e, ks, l)
    | none => none
  | _ => none
def ownPut (j : Option Nat) (u : SV) (v : SV) : SV :=
  match j with
  | none => u
  | some j => match v with
    | .tup rs => .tup (rs.set j u)
    | v => v
def ownGet (j : Option Nat) (v : SV) : SV :=
  match j with
  | none => v
  | some j => match v with
    | .tup rs => rs.getD j .any
    | _ => .any
def ownKey (cx : Cx) (d : Nat) (j : Option Nat) : Nat :=
  match j with
  | none => cx.off + d
  | some j => cx.off + 2000 + 10 * d + j
/-- Kinds of which no cell holds an address. -/
def flatK : List CK → Bool
  | [] => true
  | k :: r => (match k with
    | .sl _ => false
    | .other => false
    | _ => true) && flatK r

/-- A result whose slices are all in memory that there was not ahead of the call. -/
def frOf : SV → Option SV
  | .own e [] [r] => match Nat.beq e 999999999 with
    | true => match r.cells with
      | _ :: _ => some r
      | [] => none
    | false => none
  | _ => none
/-- A call by its contract. What hands back nothing but plain values keeps no slice: those that went with it may be written again. -/
def callOf (cx : Cx) (m : List (Nat × Chunk)) (dst : Option Nat) (f : Nat) (args : List SV) : Eff :=
  match lkO cx.fn f with
  | some c =>
    let as := lendL m args
    match closedAL as with
    | true => match frOf (c.res as) with
     | some r => ⟨c.pre as, r, [], lboxes args ++ lnamesL m args⟩
     | none => match ownAt (c.res as) with
      | none => match plainR (c.res as) with
        | true => ⟨c.pre as, c.res as, [], lboxes args ++ lnamesL m args⟩
        | false => ⟨c.pre as, c.res as, freezes m (lnamesL m args), lboxes args ++ lnamesL m args⟩
      | some (j, e, ks, l) => match dst with
        | some d => match lkO m (ownKey cx d j) with
          | none => match flatK ks && plainR (ownPut j .any (c.res as)) with
            | true => ⟨c.pre as, ownPut j (.osl (ownKey cx d j) 0) (c.res as), [(ownKey cx d j, .row 0 e ks l)], ownKey cx d j :: (lboxes args ++ lnamesL m args)⟩
            | false => ⟨c.pre as, ownPut j (.osl (ownKey cx d j) 0) (c.res as), (ownKey cx d j, .row 0 e ks l) :: freezes m (lnamesL m args), ownKey cx d j :: (lboxes args ++ lnamesL m args)⟩
          | some _ => .bad
        | none => .bad
    | false => .bad
  | none => .bad

/-- What a variable of a type holds, cell by cell, off memory that is written out. -/
def ldAt (L : TyL) (cs : List SV) (off : Nat) : SV :=
  match L.k.agg with
  | true => .agg ((cs.drop off).take L.ks.length)
  | false => cs.getD off .any

def mkCells : List CK → (Nat → SV) → Nat → List SV
  | [], _, _ => []
  | k :: r, f, j => coerce k (f j) :: mkCells r f (j + 1)

/-- .. off memory of which the kinds of the cells are known. -/
def ldBy (L : TyL) (f : Nat → SV) : SV :=
  match L.k.agg with
  | true => .agg (mkCells L.ks f 0)
  | false => coerce (L.ks.headD .other) (f 0)

def ksOk (ks : List CK) (f : Nat → SV) : Prop := ∀ j, j < ks.length → kOk (ks.getD j .other) (f j)

def fieldOff (cx : Cx) (t f : Nat) : Option Nat :=
  match tyOf cx t with
  | some L => match L.k with
    | .struct fl => match fl[f]? with
      | some (o, _) => some o
      | none => none
    | _ => none
  | none => none

/-- The cells of a row of values, for memory. -/
def flat : List SV → List SV
  | [] => []
  | v :: r => v.cells ++ flat r

def kBs : List CK → List SV → Bool
  | [], [] => true
  | k :: r, v :: s => kB k v && kBs r s
  | _, _ => false
def kBsL (ks : List CK) : List SV → Bool
  | [] => true
  | v :: r => kBs ks v.cells && kBsL ks r

/-- A slice's contents, whoever owns it. -/
def rowOf (m : List (Nat × Chunk)) : SV → Option (List CK × List SV × List Nat)
  | .sl ks l => some (ks, l, [])
  | .fsl ks l => some (ks, l, [])
  | .nilsl => some ([], [], [])
  | .osl c ver => match lkO m c with
    | some (.row v _ ks l) => match Nat.beq v ver with
      | true => some (ks, l, [c])
      | false => none
    | some (.froz v ks l) => match Nat.beq v ver with
      | true => some (ks, l, [c])
      | false => none
    | _ => none
  | _ => none

/-- Kinds of which each cell is one plain value. -/
def plainK : List CK → Bool
  | [] => true
  | .other :: _ => false
  | _ :: r => plainK r

def minV (a b : Int) : Int := if b < a then b else a
def maxV (a b : Int) : Int := if a < b then b else a

def bytesOf (l : List SV) : List UInt8 := l.map fun v => UInt8.ofNat (v.cells.getD 0 .any).toInt.toNat

def convOf (cx : Cx) (m : List (Nat × Chunk)) (s d : Nat) (v : SV) : Eff :=
  match tyOf cx s, tyOf cx d with
  | some S, some L => match L.k with
    | .int k => match v with
      | .int _ n => .val (.int k (k.wrap n))
      | .flt b => ⟨some (Ob (fToOk k b)), .int k (fTo k b), [], []⟩
      | _ => .bad
    | .flt => match v with
      | .int _ n => .val (.flt (fI n))
      | _ => .bad
    | .str => match S.k with
      | .str => match v with
        | .str b => .val (.str b)
        | _ => .bad
      | .sl e => match tyOf cx e, rowOf m v with
        | some E, some (ks, l, rd) => match E.k with
          | .int k => match decide (k = .u8), cksEq ks [.int .u8] with
            | true, true => ⟨none, .str (bytesOf l), [], rd⟩
            | _, _ => .bad
          | _ => .bad
        | _, _ => .bad
      | _ => .bad
    | _ => .bad
  | _, _ => .bad

def lenOf (cx : Cx) (m : List (Nat × Chunk)) : List Nat → List SV → Eff
  | [t], [v] => match tyOf cx t with
    | some L => match L.k with
      | .str => match v with
        | .str l => .val (.int .i64 l.length)
        | _ => .bad
      | .sl _ => match rowOf m v with
        | some (_, l, rd) => ⟨none, .int .i64 l.length, [], rd⟩
        | none => .bad
      | _ => .bad
    | none => .bad
  | _, _ => .bad

def minOf : List SV → Eff
  | [u, v] => match u, v with
    | .int k a, .int _ b => .val (.int k (minV a b))
    | _, _ => .bad
  | _ => .bad
def maxOf : List SV → Eff
  | [u, v] => match u, v with
    | .int k a, .int _ b => .val (.int k (maxV a b))
    | _, _ => .bad
  | _ => .bad

/-- The next version of a name for a slice. -/
def nextV : Option Chunk → Option Nat
  | none => some 0
  | some (.row v _ _ _) => some (v + 1)
  | some (.froz v _ _) => some (v + 1)
  | _ => none

/-- 'append': onto a slice of the function's own, onto nil, or onto a full one. -/
def appOf (cx : Cx) (m : List (Nat × Chunk)) (dst : Option Nat) : List Nat → List SV → Eff
  | [t, t'], [v, w] => match rowOf m w, tyOf cx t, Nat.beq t t' with
    | some (ks', l', rd'), some L, true => match L.k with
      | .sl e => match tyOf cx e with
        | some Le => match cksEq ks' Le.ks && plainK Le.ks && Nat.blt 0 Le.ks.length with
          | true => match v with
            | .nilsl => match dst with
              | some d => match lkO m (cx.off + d) with
                | none => ⟨some (Ob (l'.length * Le.bytes ≤ 1099511627776 ∧ l'.length ≤ 1099511627776)), .osl (cx.off + d) 0, [(cx.off + d, .row 0 e Le.ks l')], (cx.off + d) :: rd'⟩
                | some _ => .bad
              | none => .bad
            | .osl c ver => match lkO m c with
              | some (.row v e' ks l) => match Nat.beq v ver && Nat.beq e e' && cksEq ks Le.ks && !(rd'.contains c) with
                | true => ⟨some (Ob ((l.length + l'.length) * Le.bytes ≤ 1099511627776 ∧ l.length + l'.length ≤ 1099511627776)), .osl c (ver + 1), [(c, .row (ver + 1) e ks (l ++ l'))], c :: rd'⟩
                | false => .bad
              | _ => .bad
            | .fsl ks l => match dst, cksEq ks Le.ks with
              | some d, true => match nextV (lkO m (cx.off + d)) with
                | some ver => ⟨some (Ob ((l = [] ∨ 0 < l'.length) ∧ (l.length + l'.length) * Le.bytes ≤ 1099511627776 ∧ l.length + l'.length ≤ 1099511627776)), .osl (cx.off + d) ver, [(cx.off + d, .row ver e Le.ks (l ++ l'))], (cx.off + d) :: rd'⟩
                | none => .bad
              | _, _ => .bad
            | _ => .bad
          | false => .bad
        | none => .bad
      | _ => .bad
    | _, _, _ => .bad
  | _, _ => .bad

def cpxOf : List SV → Eff
  | [u, v] => match u, v with
    | .flt a, .flt b => .val (.cpx a b)
    | _, _ => .bad
  | _ => .bad
def reOf : List SV → Eff
  | [u] => match u with
    | .cpx a _ => .val (.flt a)
    | _ => .bad
  | _ => .bad
def imOf : List SV → Eff
  | [u] => match u with
    | .cpx _ b => .val (.flt b)
    | _ => .bad
  | _ => .bad

/-- A row into which another one was copied, from its beginning on. -/
def copyL (l l' : List SV) : List SV := l'.take l.length ++ l.drop l'.length
/-- 'copy' into a slice of the function's own. -/
def copyOf (cx : Cx) (m : List (Nat × Chunk)) : List Nat → List SV → Eff
  | [t, _], [v, w] => match rowOf m w, tyOf cx t with
    | some (ks', l', rd'), some L => match L.k with
      | .sl e => match tyOf cx e with
        | some Le => match v with
          | .osl c ver => match lkO m c with
            | some (.row v e' ks l) => match Nat.beq v ver && cksEq ks Le.ks && cksEq ks' Le.ks && plainK Le.ks && !(rd'.contains c) with
              | true => ⟨none, .int .i64 (Nat.min l'.length l.length : Nat), [(c, .row v e' ks (copyL l l'))], c :: rd'⟩
              | false => .bad
            | _ => .bad
          | _ => .bad
        | none => .bad
      | _ => .bad
    | _, _ => .bad
  | _, _ => .bad

/-- 'clear' of the end of a slice of the function's own. -/
def clrOf (cx : Cx) (m : List (Nat × Chunk)) : List Nat → List SV → Eff
  | [t], [v] => match v, tyOf cx t with
    | .otl c sz k ver, some L => match L.k with
      | .sl e => match tyOf cx e, lkO m c with
        | some Le, some (.row v' e' ks l) => match Nat.beq v' ver && cksEq ks Le.ks && kBs Le.ks Le.zero && Nat.beq sz ks.length && plainK ks && Nat.blt 0 ks.length with
          | true => ⟨some (Ob (k ≤ l.length)), .any, [(c, .row v' e' ks (l.take k ++ List.replicate (l.length - k) (elOf Le.zero)))], [c]⟩
          | false => .bad
        | _, _ => .bad
      | _ => .bad
    | _, _ => .bad
  | _, _ => .bad

def builtinOf (cx : Cx) (m : List (Nat × Chunk)) (b : Builtin) (ts : List Nat) (dst : Option Nat) (args : List SV) : Eff :=
  match b with
  | .len => lenOf cx m ts args
  | .min => minOf args
  | .max => maxOf args
  | .append => appOf cx m dst ts args
  | .complex => cpxOf args
  | .real => reOf args
  | .imag => imOf args
  | .copy => copyOf cx m ts args
  | .clear => clrOf cx m ts args
  | _ => .bad

/-- A literal's parts, laid where they belong. -/
def fillS (m : List (Nat × Chunk)) (g : Operand → SV) (place : Nat → Option (Nat × Nat)) : List (Nat × Operand) → List SV → Option (List SV)
  | [], cs => some cs
  | (i, x) :: r, cs => match place i with
    | some (off, sz) => match Nat.beq (g x).cells.length sz, cellsB m (g x), Nat.ble (off + sz) cs.length with
      | true, true, true => fillS m g place r (setL cs off (g x).cells)
      | _, _, _ => none
    | none => none

def bOf : SV → Option Bool
  | .tt => some true
  | .ff => some false
  | .bool b => some b
  | _ => none

/-- Is a pointer nil? -/
def isNilP : SV → SV
  | .nilp => .tt
  | .ep _ _ _ _ => .ff
  | .ptr _ _ => .ff
  | .oep b _ _ _ _ => .bool (!b)
  | _ => .any
def notV : SV → SV
  | .tt => .ff
  | .ff => .tt
  | .bool b => .bool (!b)
  | _ => .any
def anyB : SV → Bool
  | .any => true
  | _ => false
/-- A pointer held against nil. -/
def ptrCmp (op : BinOp) (n b : SV) : Eff :=
  match b with
  | .nilp => match anyB n with
    | true => .bad
    | false => match op with
      | .eql => .val n
      | .neq => .val (notV n)
      | _ => .bad
  | _ => .bad

/-- A slice held against nil: if it is, it has no elements. -/
def nilCmp (m : List (Nat × Chunk)) (op : BinOp) (a b : SV) : Eff :=
  match op, b with
  | .eql, .nilsl => match a with
    | .nilsl => .val .tt
    | .sl _ l => .val (.nb l)
    | .osl c ver => match lkO m c with
      | some (.row v _ _ l) => match Nat.beq v ver with
        | true => ⟨none, .nb l, [], [c]⟩
        | false => .bad
      | some (.froz v _ l) => match Nat.beq v ver with
        | true => ⟨none, .nb l, [], [c]⟩
        | false => .bad
      | _ => .bad
    | _ => .bad
  | _, _ => .bad
/-- Where all is plain: is this all of it? -/
def fullB (pl : Bool) (b : Int) (l : List SV) : Bool :=
  match pl with
  | true => decide (b = l.length)
  | false => false
/-- A part of a slice that nobody writes. -/
def slPart (Le : TyL) (ks : List CK) (l : List SV) (rd : List Nat) (lo hi : Option SV) : Eff :=
  match Nat.beq Le.ks.length ks.length with
  | true => match lo, hi with
    | some (.int _ a), none => ⟨some (Ob (0 ≤ a ∧ a ≤ l.length)), .sl ks (l.drop a.toNat), [], rd⟩
    | none, some (.int _ b) => ⟨some (Ob (0 ≤ b ∧ b ≤ l.length)), .sl ks (l.take b.toNat), [], rd⟩
    | some (.int _ a), some (.int _ b) => ⟨some (Ob (0 ≤ a ∧ a ≤ b ∧ b ≤ l.length)), .sl ks ((l.take b.toNat).drop a.toNat), [], rd⟩
    | _, _ => .bad
  | false => .bad

/-- A slice of which all that may be appended to is what it has. -/
def sl3Of (Le : TyL) (m : List (Nat × Chunk)) (x : SV) (a b : Int) : Eff :=
  match x with
  | .nilsl => ⟨some (Ob (a = 0 ∧ b = 0)), .nilsl, [], []⟩
  | .sl ks l => match Nat.beq Le.ks.length ks.length with
    | true => ⟨some (Ob (a = l.length ∧ b = l.length)), .fsl ks l, [], []⟩
    | false => .bad
  | .osl c ver => match lkO m c with
    | some (.row v _ ks l) => match Nat.beq v ver && Nat.beq Le.ks.length ks.length with
      | true => ⟨some (Ob (a = l.length ∧ b = l.length)), .fsl ks l, [(c, .froz v ks l)], [c]⟩
      | false => .bad
    | some (.froz v ks l) => match Nat.beq v ver && Nat.beq Le.ks.length ks.length with
      | true => ⟨some (Ob (a = l.length ∧ b = l.length)), .fsl ks l, [], [c]⟩
      | false => .bad
    | _ => .bad
  | _ => .bad

/-- A slice without elements, and without room. -/
def slZOf (Le : TyL) (ks : List CK) (_l : List SV) : Eff :=
  match Nat.beq Le.ks.length ks.length with
  | true => .val (.fsl ks [])
  | false => .bad
/-- Is it the number 0, as it is written? -/
def isZ : Operand → Bool
  | .const (.int _ (.ofNat 0)) => true
  | _ => false

def sl3Z (z : Bool) (Le : TyL) (m : List (Nat × Chunk)) (x y u : SV) : Eff :=
  match z, x with
  | true, .sl ks l => slZOf Le ks l
  | _, x => match y, u with
    | .int _ a, .int _ b => sl3Of Le m x a b
    | _, _ => .bad
theorem sl3Z_no {z : Bool} {Le : TyL} {m : List (Nat × Chunk)} {x y u : SV} (h : ∀ ks l, z = true → x ≠ .sl ks l) : sl3Z z Le m x y u = (match y, u with
    | .int _ a, .int _ b => sl3Of Le m x a b
    | _, _ => .bad) := by
  unfold sl3Z
  split
  · exact absurd rfl (h _ _ rfl)
  · rfl

/-! ### Maps -/
def keyEq : SV → SV → Bool
  | .str a, .str b => decide (a = b)
  | .int _ a, .int _ b => decide (a = b)
  | _, _ => false
/-- What stands at a key. -/
def mpGet : List SV → SV → Option SV
  | [], _ => none
  | e :: r, k => match keyEq k (e.cells.getD 0 .any) with
    | true => some (e.cells.getD 1 .any)
    | false => mpGet r k
def mpV (l : List SV) (k : SV) : SV := (mpGet l k).getD .any
def mpHas (l : List SV) (k : SV) : Bool := (mpGet l k).isSome
/-- .. written where it stands. -/
def mpMod : List SV → SV → SV → List SV
  | [], _, _ => []
  | e :: r, k, v => match keyEq k (e.cells.getD 0 .any) with
    | true => .agg [e.cells.getD 0 .any, v, e.cells.getD 2 .any] :: r
    | false => e :: mpMod r k v
def mpPut (l : List SV) (ck : Nat) (k v : SV) : List SV :=
  match mpHas l k with
  | true => mpMod l k v
  | false => l ++ [.agg [k, v, .int .i64 ck]]
def mpCk (l : List SV) (ck : Nat) (k : SV) : Nat :=
  match mpHas l k with
  | true => ck
  | false => ck + 1
def mpDel : List SV → SV → List SV
  | [], _ => []
  | e :: r, k => match keyEq k (e.cells.getD 0 .any) with
    | true => r
    | false => e :: mpDel r k
/-- Is a value a key, or an element, of a kind; of which kinds may they be? -/
def mpKey : CK → SV → Bool
  | .str, .str _ => true
  | .int .i64, .int .i64 _ => true
  | _, _ => false
def mpVal : CK → SV → Bool
  | .str, .str _ => true
  | .int k, .int k' _ => decide (k = k')
  | .bool, .bool _ => true
  | .bool, .tt => true
  | .bool, .ff => true
  | _, _ => false
def mpKk (L : TyL) : Option CK :=
  match L.k with
  | .str => some .str
  | .int .i64 => some (.int .i64)
  | _ => none
def mpVk (L : TyL) : Option CK :=
  match L.k with
  | .str => some .str
  | .int k => some (.int k)
  | .bool => some .bool
  | _ => none
def kkB (L : TyL) (k : CK) : Bool :=
  match mpKk L with
  | some k' => ckEq k' k
  | none => false
def vkB (L : TyL) (k : CK) : Bool :=
  match mpVk L with
  | some k' => ckEq k' k
  | none => false
def mpZero : CK → SV
  | .str => .str []
  | .int k => .int k 0
  | .bool => .ff
  | _ => .any
def mkMap (cx : Cx) (m : List (Nat × Chunk)) (dst : Option Nat) (t : Nat) : Eff :=
  match dst, tyOf cx t with
  | some d, some L => match L.k with
    | .mp k e => match tyOf cx k, tyOf cx e with
      | some Lk, some Le => match mpKk Lk, mpVk Le, lkO m (cx.off + d) with
        | some kk, some vk, none => ⟨none, .mpp (cx.off + d), [(cx.off + d, .mp t kk vk [] 0)], [cx.off + d]⟩
        | _, _, _ => .bad
      | _, _ => .bad
    | _ => .bad
  | _, _ => .bad
def zB0 : SV → Bool
  | .int _ 0 => true
  | .ff => true
  | .str [] => true
  | _ => false
def lookMap (cx : Cx) (m : List (Nat × Chunk)) (t : Nat) (x k : SV) (ok : Bool) : Eff :=
  match x, tyOf cx t with
  | .mpp c, some L => match L.k, lkO m c with
    | .mp tk te, some (.mp _ kk vk l _) => match tyOf cx tk, tyOf cx te with
      | some Lk, some Le => match kkB Lk kk && vkB Le vk && mpKey kk k, Le.zero with
        | true, [z] => match mpVal vk z && zB0 z with
          | true => ⟨none, (match ok with
            | true => .tup [coerce vk (mpV l k), .bool (mpHas l k)]
            | false => coerce vk (mpV l k)), [], [c]⟩
          | false => .bad
        | _, _ => .bad
      | _, _ => .bad
    | _, _ => .bad
  | _, _ => .bad
def putMap (cx : Cx) (m : List (Nat × Chunk)) (t : Nat) (x k v : SV) : Eff :=
  match x, tyOf cx t with
  | .mpp c, some L => match L.k, lkO m c with
    | .mp tk _, some (.mp t' kk vk l ck) => match tyOf cx tk with
      | some Lk => match kkB Lk kk && mpKey kk k && mpVal vk v && !(roK c) with
        | true => ⟨none, .und, [(c, .mp t' kk vk (mpPut l ck k v) (mpCk l ck k))], [c]⟩
        | false => .bad
      | none => .bad
    | _, _ => .bad
  | _, _ => .bad

def delMap (cx : Cx) (m : List (Nat × Chunk)) : List Nat → List SV → Eff
  | [t, _], [x, k] => match x, tyOf cx t with
    | .mpp c, some L => match L.k, lkO m c with
      | .mp tk _, some (.mp t' kk vk l ck) => match tyOf cx tk with
        | some Lk => match kkB Lk kk && mpKey kk k && !(roK c) with
          | true => ⟨none, .any, [(c, .mp t' kk vk (mpDel l k) ck)], [c]⟩
          | false => .bad
        | none => .bad
      | _, _ => .bad
    | _, _ => .bad
  | _, _ => .bad

/-- An entry's stamp; the entry of a stamp. -/
def mpS (l : List SV) (j : Nat) : Nat := (elCell l j 2).toInt.toNat
def mpAt : List SV → Nat → Option SV
  | [], _ => none
  | e :: r, n => match Nat.beq (e.cells.getD 2 .any).toInt.toNat n with
    | true => some e
    | false => mpAt r n
/-- .. its value written. -/
def mpSet : List SV → Nat → SV → List SV
  | [], _, _ => []
  | e :: r, n, v => match Nat.beq (e.cells.getD 2 .any).toInt.toNat n with
    | true => .agg [e.cells.getD 0 .any, v, e.cells.getD 2 .any] :: r
    | false => e :: mpSet r n v
/-- The stamp of what stands at a key, or of what comes there. -/
def mpStK : List SV → Nat → SV → Int
  | [], ck, _ => ck
  | e :: r, ck, k => match keyEq k (e.cells.getD 0 .any) with
    | true => (e.cells.getD 2 .any).toInt
    | false => mpStK r ck k
/-- .. with a zero where nothing stands. -/
def mpEnt (l : List SV) (ck : Nat) (vk : CK) (k : SV) : List SV :=
  match mpHas l k with
  | true => l
  | false => l ++ [.agg [k, coerce vk .any, .int .i64 ck]]
def entMap (cx : Cx) (m : List (Nat × Chunk)) (t : Nat) (x k : SV) : Eff :=
  match x, tyOf cx t with
  | .mpp c, some L => match L.k, lkO m c with
    | .mp tk te, some (.mp t' kk vk l ck) => match tyOf cx tk, tyOf cx te with
      | some Lk, some Le => match kkB Lk kk && vkB Le vk && mpKey kk k && !(roK c), Le.zero with
        | true, [z] => match mpVal vk z && zB0 z with
          | true => ⟨none, .tup [coerce vk (mpV l k), .int .i64 (mpStK l ck k)], [(c, .mp t' kk vk (mpEnt l ck vk k) (mpCk l ck k))], [c]⟩
          | false => .bad
        | _, _ => .bad
      | _, _ => .bad
    | _, _ => .bad
  | _, _ => .bad
def stoMap (m : List (Nat × Chunk)) (x st v : SV) : Eff :=
  match x, st with
  | .mpp c, .int .i64 n => match lkO m c with
    | some (.mp t' kk vk l ck) => match mpVal vk v && !(roK c) with
      | true => ⟨some (Ob (0 ≤ n ∧ (mpAt l n.toNat).isSome = true)), .und, [(c, .mp t' kk vk (mpSet l n.toNat v) ck)], [c]⟩
      | false => .bad
    | _ => .bad
  | _, _ => .bad
def rngMap (cx : Cx) (m : List (Nat × Chunk)) (dst : Option Nat) (t : Nat) (x : SV) : Eff :=
  match x, tyOf cx t, dst with
  | .mpp c, some L, some d => match L.k, lkO m c, lkO m (cx.off + d) with
    | .mp _ _, some (.mp _ _ _ _ ck), none => ⟨none, .itp (cx.off + d), [(cx.off + d, .it c ck [] ck)], [cx.off + d, c]⟩
    | _, _, _ => .bad
  | _, _, _ => .bad
def itMap (m : List (Nat × Chunk)) (x : SV) : Eff :=
  match x with
  | .itp c => match lkO m c with
    | some (.it d _ (n :: _) last) => match lkO m d with
      | some (.mp _ kk vk l ck) => ⟨some (Ob (last = ck ∧ (mpAt l n).isSome = true)), .tup [coerce kk (((mpAt l n).getD .any).cells.getD 0 .any), coerce vk (((mpAt l n).getD .any).cells.getD 1 .any)], [], [c, d]⟩
      | _ => .bad
    | _ => .bad
  | _ => .bad

def opE (cx : Cx) (m : List (Nat × Chunk)) (g : Operand → SV) (dst : Option Nat) (op : Op) : Eff :=
  match op with
  | .move x => .val (g x)
  | .assign x => .val (g x)
  | .pick c a b => match g c with
    | .tt => .val (g a)
    | .ff => .val (g b)
    | .bool x => match bOf (g a), bOf (g b) with
      | some p, some q => .val (.bool (cond x p q))
      | _, _ => .bad
    | _ => .bad
  | .alloc t => match dst, tyOf cx t with
    | some d, some L => match lkO m (cx.off + d) with
      | none => ⟨none, .ptr (cx.off + d) 0, [(cx.off + d, .box t L.zero)], [cx.off + d]⟩
      | some _ => .bad
    | _, _ => .bad
  | .box t x => match dst with
    | some d => match lkO m (cx.off + d), cellsB m (g x) with
      | none, true => ⟨none, .ptr (cx.off + d) 0, [(cx.off + d, .box t (g x).cells)], (cx.off + d) :: names (g x)⟩
      | _, _ => .bad
    | none => .bad
  | .build t ps => match tyOf cx t with
    | some L => match L.k with
      | .struct fl => match fillS m g (fun i => match fl[i]? with
        | some (o, ft) => match tyOf cx ft with
          | some Lf => some (o, Lf.ks.length)
          | none => none
        | none => none) ps.toList L.zero with
        | some cs => ⟨none, .agg cs, [], namesL (ps.toList.map fun (_, x) => g x)⟩
        | none => .bad
      | .arr _ e => match tyOf cx e with
        | some Le => match fillS m g (fun i => some (i * Le.ks.length, Le.ks.length)) ps.toList L.zero with
          | some cs => ⟨none, .agg cs, [], namesL (ps.toList.map fun (_, x) => g x)⟩
          | none => .bad
        | none => .bad
      | _ => .bad
    | none => .bad
  | .load t a => match tyOf cx t with
    | some L => match g a with
      | .ptr c off => match lkO m c with
        | some (.box _ cs) => match Nat.ble (off + L.ks.length) cs.length with
          | true => ⟨none, ldAt L cs off, [], [c]⟩
          | false => .bad
        | _ => .bad
      | .ptx c off => match lkO m c with
        | some (.box _ cs) => ⟨some (Ob (off + L.ks.length ≤ cs.length ∧ ksOk L.ks fun j => cs.getD (off + j) .any)), ldBy L (fun j => cs.getD (off + j) .any), [], [c]⟩
        | _ => .bad
      | .ep ks l i off => match cksEq ((ks.drop off).take L.ks.length) L.ks with
        | true => .val (ldBy L fun j => elCell l i (off + j))
        | false => .bad
      | .rptr c sz i off ver => match lkO m c with
        | some (.row v _ ks l) => match Nat.beq v ver && Nat.beq sz ks.length && cksEq ((ks.drop off).take L.ks.length) L.ks with
          | true => ⟨some (Ob (i < l.length)), ldBy L (fun j => elCell l i (off + j)), [], [c]⟩
          | false => .bad
        | _ => .bad
      | _ => .bad
    | none => .bad
  | .store t a x => match tyOf cx t with
    | some L => match Nat.beq (g x).cells.length L.ks.length, cellsB m (g x), oneL m (g x).cells with
      | true, true, true => match g a with
        | .ptr c off => match lkO m c with
          | some (.box bt cs) => match Nat.ble (off + L.ks.length) cs.length && !(roK c) with
            | true => ⟨none, .und, [(c, .box bt (setL cs off (g x).cells))], c :: names (g x)⟩
            | false => .bad
          | _ => .bad
        | .ptx c off => match lkO m c with
          | some (.box bt cs) => match roK c with
            | false => ⟨some (Ob (off + L.ks.length ≤ cs.length)), .und, [(c, .box bt (setL cs off (g x).cells))], c :: names (g x)⟩
            | true => .bad
          | _ => .bad
        | .rptr c sz i off ver => match lkO m c with
          | some (.row v e ks l) => match Nat.beq v ver && Nat.beq sz ks.length && cksEq ((ks.drop off).take L.ks.length) L.ks && kBs L.ks (resolveL m (g x).cells) && Nat.blt 0 L.ks.length && !((names (g x)).contains c) with
            | true => ⟨some (Ob (i < l.length)), .und, (c, .row v e ks (l.set i (stEl sz (l.getD i .any) off (resolveL m (g x).cells)))) :: freezes m (names (g x)), c :: names (g x)⟩
            | false => .bad
          | _ => .bad
        | _ => .bad
      | _, _, _ => .bad
    | none => .bad
  | .fieldAddr t x f => match fieldOff cx t f, g x with
    | some o, .ptr c off => .val (.ptr c (off + o))
    | some o, .ptx c off => .val (.ptx c (off + o))
    | some o, .ep ks l i off => .val (.ep ks l i (off + o))
    | some o, .rptr c sz i off ver => match lkO m c with
      | some (.row v _ _ l) => match Nat.beq v ver with
        | true => ⟨some (Ob (i < l.length)), .rptr c sz i (off + o) ver, [], [c]⟩
        | false => .bad
      | _ => .bad
    | _, _ => .bad
  | .indexAddr t x i => match g x, g i with
    | .sl ks l, .int _ n => match tyOf cx t with
      | some L => match L.k with
        | .sl e => match tyOf cx e with
          | some Le => match Nat.beq Le.ks.length ks.length with
            | true => ⟨some (Ob (0 ≤ n ∧ n < l.length)), .ep ks l n.toNat 0, [], []⟩
            | false => .bad
          | none => .bad
        | _ => .bad
      | none => .bad
    | .ptr c off, .int _ n => match tyOf cx t with
      | some L => match L.k with
        | .arr len e => match tyOf cx e with
          | some Le => match cx.lit with
            | true => ⟨some (Ob (0 ≤ n ∧ n < len)), .ptr c (off + n.toNat * Le.ks.length), [], []⟩
            | false => ⟨some (Ob (0 ≤ n ∧ n < len)), .ptx c (off + n.toNat * Le.ks.length), [], []⟩
          | none => .bad
        | _ => .bad
      | none => .bad
    | .osl c ver, .int _ n => match tyOf cx t with
      | some L => match L.k with
        | .sl e => match tyOf cx e with
          | some Le => match lkO m c with
            | some (.row v _ ks l) => match Nat.beq v ver && Nat.beq Le.ks.length ks.length with
              | true => ⟨some (Ob (0 ≤ n ∧ n < l.length)), .rptr c ks.length n.toNat 0 ver, [], [c]⟩
              | false => .bad
            | some (.froz v ks l) => match Nat.beq v ver && Nat.beq Le.ks.length ks.length with
              | true => ⟨some (Ob (0 ≤ n ∧ n < l.length)), .ep ks l n.toNat 0, [], [c]⟩
              | false => .bad
            | _ => .bad
          | none => .bad
        | _ => .bad
      | none => .bad
    | _, _ => .bad
  | .field t x f => match g x with
    | .agg cs => match tyOf cx t with
      | some L => match L.k with
        | .struct fl => match fl[f]? with
          | some (o, ft) => match tyOf cx ft with
            | some Lf => match Nat.ble (o + Lf.ks.length) cs.length with
              | true => .val (ldAt Lf cs o)
              | false => .bad
            | none => .bad
          | none => .bad
        | _ => .bad
      | none => .bad
    | _ => .bad
  | .index t x i => match g x, g i with
    | .str l, .int _ n => match tyOf cx t with
      | some L => match L.k with
        | .str => ⟨some (Ob (0 ≤ n ∧ n < l.length)), .int .u8 (l.getD n.toNat 0).toNat, [], []⟩
        | _ => .bad
      | none => .bad
    | .agg cs, .int _ n => match tyOf cx t with
      | some L => match L.k with
        | .arr len e => match tyOf cx e with
          | some Le => match cx.lit with
            | true => match Nat.ble (n.toNat * Le.ks.length + Le.ks.length) cs.length with
              | true => ⟨some (Ob (0 ≤ n ∧ n < len)), ldAt Le cs (n.toNat * Le.ks.length), [], []⟩
              | false => .bad
            | false => ⟨some (Ob (0 ≤ n ∧ n < len ∧ n.toNat * Le.ks.length + Le.ks.length ≤ cs.length ∧ ksOk Le.ks fun j => cs.getD (n.toNat * Le.ks.length + j) .any)), ldBy Le (fun j => cs.getD (n.toNat * Le.ks.length + j) .any), [], []⟩
          | none => .bad
        | _ => .bad
      | none => .bad
    | _, _ => .bad
  | .binOp op t x y _ => match g x, g y with
    | .int k a, .int k' b => match decide (k = k') || isSh op with
      | true => ⟨arOb op b, ar op k a b, [], []⟩
      | false => .bad
    | .str a, .str b => match op with
      | .add => ⟨some (Ob (a.length + b.length ≤ 9223372036854775807)), .str (a ++ b), [], []⟩
      | .eql => .val (.bool (decide (a = b)))
      | .neq => .val (.bool (!decide (a = b)))
      | .lss => .val (.bool (Op.bytesLess a b))
      | .leq => .val (.bool (Op.bytesLess a b || decide (a = b)))
      | .gtr => .val (.bool (!(Op.bytesLess a b || decide (a = b))))
      | .geq => .val (.bool (!Op.bytesLess a b))
      | _ => .bad
    | .flt a, .flt b => fltBin op a b
    | .cpx a b, .cpx c d => cpxBin op a b c d
    | a, b => match tyOf cx t with
      | some L => match L.k with
        | .bool => match op, eqV a b with
          | .eql, some r => .val (.bool r)
          | .neq, some r => .val (.bool (!r))
          | _, _ => .bad
        | .struct _ => match L.eq, op, a, b with
          | true, .eql, .agg x, .agg y => match eqVs L.ks x y with
            | some r => .val (.bool r)
            | none => .bad
          | true, .neq, .agg x, .agg y => match eqVs L.ks x y with
            | some r => .val (.bool (!r))
            | none => .bad
          | _, _, _, _ => .bad
        | .ptr _ => ptrCmp op (isNilP a) b
        | .sl _ => nilCmp m op a b
        | _ => .bad
      | none => .bad
  | .unOp op _ x => match op, g x with
    | .not, .tt => .val .ff
    | .not, .ff => .val .tt
    | .not, .bool b => .val (.bool (!b))
    | .neg, .int k n => .val (.int k (k.wrap (0 - n)))
    | .neg, .flt b => .val (.flt (fN b))
    | .neg, .cpx a b => .val (.cpx (fN a) (fN b))
    | _, _ => .bad
  | .convert s d x => convOf cx m s d (g x)
  | .buildSlice t n ps => match dst, tyOf cx t with
    | some d, some L => match L.k with
      | .sl e => match tyOf cx e with
        | some Le =>
          let l0 := ps.toList.map fun (_, x) => g x
          let l := resolveL m l0
          match lkO m (cx.off + d), kBsL Le.ks l, Nat.beq n l.length && Nat.ble (n * Le.ks.length) 16777216 && Nat.blt 0 Le.ks.length, (ps.toList.zipIdx.all fun (p, i) => Nat.beq p.1 i) with
          | none, true, true, true => ⟨none, .osl (cx.off + d) 0, (cx.off + d, .row 0 e Le.ks l) :: freezes m (namesL l0), (cx.off + d) :: namesL l0⟩
          | _, _, _, _ => .bad
        | none => .bad
      | _ => .bad
    | _, _ => .bad
  | .nilCheck x => match g x with
    | .ptr c off => .val (.ptr c off)
    | .ep ks l i off => .val (.ep ks l i off)
    | .oep b ks l i off => ⟨some (Ob (b = true)), .ep ks l i off, [], []⟩
    | _ => .bad
  | .makeFunc fn first caps => match fn, first.toList, oneL m (caps.toList.map g) with
    | .func f, [], true => ⟨none, .fn f (caps.toList.map g), [], namesL (caps.toList.map g)⟩
    | _, _, _ => .bad
  | .makeSlice t len cap => match dst, tyOf cx t, g len, g cap with
    | some d, some L, .int _ n, .int _ n' => match L.k with
      | .sl e => match tyOf cx e with
        | some Le => match lkO m (cx.off + d), Nat.blt 0 Le.ks.length && kBs Le.ks Le.zero with
          | none, true => match isZ len with
            | true => ⟨some (Ob (0 ≤ n' ∧ n' * Le.bytes ≤ 1099511627776 ∧ n' ≤ 1099511627776)), .osl (cx.off + d) 0, [(cx.off + d, .row 0 e Le.ks [])], [cx.off + d]⟩
            | false => ⟨some (Ob (n = n' ∧ 0 ≤ n ∧ n * Le.bytes ≤ 1099511627776 ∧ n ≤ 1099511627776)), .osl (cx.off + d) 0, [(cx.off + d, .row 0 e Le.ks (List.replicate n.toNat (elOf Le.zero)))], [cx.off + d]⟩
          | _, _ => .bad
        | none => .bad
      | _ => .bad
    | _, _, _, _ => .bad
  | .extract x i => match g x with
    | .tup vs => match vs[i]? with
      | some v => .val v
      | none => .bad
    | _ => .bad
  | .slice t x lo hi none => match tyOf cx t with
    | some L => match L.k, g x with
      | .str, .str l =>
        match lo.map g, hi.map g with
        | none, none => .val (.str l)
        | some (.int _ a), none => ⟨some (Ob (0 ≤ a ∧ a ≤ l.length)), .str (l.drop a.toNat), [], []⟩
        | none, some (.int _ b) => ⟨some (Ob (0 ≤ b ∧ b ≤ l.length)), .str (l.take b.toNat), [], []⟩
        | some (.int _ a), some (.int _ b) => ⟨some (Ob (0 ≤ a ∧ a ≤ b ∧ b ≤ l.length)), .str ((l.take b.toNat).drop a.toNat), [], []⟩
        | _, _ => .bad
      | .sl e, .sl ks l => match tyOf cx e with
        | some Le => slPart Le ks l [] (lo.map g) (hi.map g)
        | none => .bad
      | .sl e, .osl c ver => match tyOf cx e, lkO m c with
        | some Le, some (.row v e' ks l) => match Nat.beq v ver && Nat.beq Le.ks.length ks.length with
          | true => match lo.map g, hi.map g with
            | none, some (.int _ b) => match fullB cx.pl b l with
              | true => ⟨none, .osl c ver, [], [c]⟩
              | false => ⟨some (Ob (0 ≤ b ∧ b ≤ l.length)), .osl c (ver + 1), [(c, .row (ver + 1) e' ks (l.take b.toNat))], [c]⟩
            | some (.int _ a), none => ⟨some (Ob (0 ≤ a ∧ a ≤ l.length)), .otl c ks.length a.toNat ver, [], [c]⟩
            | _, _ => .bad
          | false => .bad
        | some Le, some (.froz v ks l) => match Nat.beq v ver with
          | true => slPart Le ks l [c] (lo.map g) (hi.map g)
          | false => .bad
        | _, _ => .bad
      | .sl e, .nilsl => match tyOf cx e, lo, hi.map g with
        | some _, none, some (.int _ b) => ⟨some (Ob (b = 0)), .nilsl, [], []⟩
        | _, _, _ => .bad
      | _, _ => .bad
    | none => .bad
  | .slice t x none (some hi) (some mx) => match tyOf cx t with
    | some L => match L.k with
      | .sl e => match tyOf cx e with
        | some Le => sl3Z (isZ hi && isZ mx) Le m (g x) (g hi) (g mx)
        | none => .bad
      | _ => .bad
    | none => .bad
  | .call c => match c.callee with
    | .value f => match g f with
      | .fn f caps => callOf cx m dst f ((c.args.toList.map g) ++ caps)
      | _ => .bad
    | .builtin b => match b with
      | .delete => delMap cx m c.argTypes.toList (c.args.toList.map g)
      | b => builtinOf cx m b c.argTypes.toList dst (c.args.toList.map g)
    | _ => .bad
  | .makeMap t none => mkMap cx m dst t
  | .lookup t x k ok => lookMap cx m t (g x) (g k) ok
  | .mapUpdate t x k v => putMap cx m t (g x) (g k) (g v)
  | .insert t x k v => putMap cx m t (g x) (g k) (g v)
  | .mapEntry t x k => entMap cx m t (g x) (g k)
  | .entryStore _ x st v => stoMap m (g x) (g st) (g v)
  | .range t x => rngMap cx m dst t (g x)
  | .entry x => itMap m (g x)
  | _ => .bad

def opx (cx : Cx) (m : List (Nat × Chunk)) (g : Operand → SV) (o : Oper) : Eff := opE cx m g o.dst o.op

def upd (s : St) (d : Option Nat) (v : SV) (ch : List (Nat × Chunk)) : St :=
  ⟨match d with
    | some d => (d, v) :: s.tm
    | none => s.tm, ch ++ s.mem⟩

def brP (b : Bool) (p q : Prop) : Prop := (b = true → p) ∧ (b = false → q)

def obA (o : Option Prop) (p : Prop) : Prop :=
  match o with
  | none => p
  | some q => q ∧ p

/-- Does the outcome of operation i decide whether others are carried out? -/
def isG : List Oper → Nat → Bool
  | [], _ => false
  | o :: r, i => match o.guard with
    | some (j, _) => match Nat.beq j i with
      | true => true
      | false => isG r i
    | none => isG r i

/-- Is an operation carried out? none: it can't be told. -/
def wantB (all : List Oper) (tm : List (Nat × SV)) (o : Oper) : Option Bool :=
  match o.guard with
  | none => some true
  | some (j, b) => match all[j]? with
    | some oj => match oj.dst with
      | some d => match lk .any tm d, b with
        | .tt, true => some true
        | .ff, false => some true
        | .tt, false => some false
        | .ff, true => some false
        | .und, _ => some false
        | _, _ => none
      | none => none
    | none => none

def dOk (cx : Cx) : Option Nat → Bool
  | some d => Nat.blt d cx.nt
  | none => true

/-- Where all is plain: what a test comes to is told at once. -/
def plV (pl : Bool) (v : SV) : SV :=
  match pl with
  | true => match v with
    | .bool b => match b with
      | true => .tt
      | false => .ff
    | v => v
  | false => v

mutual
/-- The same, written out. -/
def forceV : SV → (SV → Prop) → Prop
  | .agg cs, k => forceVs cs (fun cs => k (.agg cs))
  | .tup cs, k => forceVs cs (fun cs => k (.tup cs))
  | .fn f cs, k => forceVs cs (fun cs => k (.fn f cs))
  | .any, k => k .any
  | .und, k => k .und
  | .int q n, k => k (.int q n)
  | .bool b, k => k (.bool b)
  | .tt, k => k .tt
  | .ff, k => k .ff
  | .str l, k => k (.str l)
  | .flt b, k => k (.flt b)
  | .cpx x y, k => k (.cpx x y)
  | .ptr c off, k => k (.ptr c off)
  | .ptx c off, k => k (.ptx c off)
  | .rptr c sz i off ver, k => k (.rptr c sz i off ver)
  | .osl c ver, k => k (.osl c ver)
  | .sl ks l, k => k (.sl ks l)
  | .ep ks l i off, k => k (.ep ks l i off)
  | .oep b ks l i off, k => k (.oep b ks l i off)
  | .nilsl, k => k .nilsl
  | .nilp, k => k .nilp
  | .nb l, k => k (.nb l)
  | .fsl ks l, k => k (.fsl ks l)
  | .lp t cs, k => k (.lp t cs)
  | .own e ks l, k => k (.own e ks l)
  | .mpp c, k => k (.mpp c)
  | .itp c, k => k (.itp c)
  | .otl c sz i ver, k => k (.otl c sz i ver)
  | .csl b ks l, k => k (.csl b ks l)
def forceVs : List SV → (List SV → Prop) → Prop
  | [], k => k []
  | v :: r, k => forceV v (fun v => forceVs r (fun r => k (v :: r)))
end
def forceT : List (Nat × SV) → (List (Nat × SV) → Prop) → Prop
  | [], k => k []
  | (t, v) :: r, k => forceV v (fun v => forceT r (fun r => k ((t, v) :: r)))
def forceC : Chunk → (Chunk → Prop) → Prop
  | .box t cs, k => forceVs cs (fun cs => k (.box t cs))
  | .row v e ks l, k => k (.row v e ks l)
  | .froz v ks l, k => k (.froz v ks l)
  | .gh v, k => forceV v (fun v => k (.gh v))
  | .mp t a b l ck, k => k (.mp t a b l ck)
  | .it d a sn b, k => k (.it d a sn b)
def forceM : List (Nat × Chunk) → (List (Nat × Chunk) → Prop) → Prop
  | [], k => k []
  | (t, c) :: r, k => forceC c (fun c => forceM r (fun r => k ((t, c) :: r)))
def forceD (s : St) (k : St → Prop) : Prop := forceT s.tm (fun t => forceM s.mem (fun m => k ⟨t, m⟩))
mutual
theorem forceV_eq : ∀ (v : SV) (k : SV → Prop), forceV v k = k v
  | .agg cs, k => by simp only [forceV]; rw [forceVs_eq cs]
  | .tup cs, k => by simp only [forceV]; rw [forceVs_eq cs]
  | .fn f cs, k => by simp only [forceV]; rw [forceVs_eq cs]
  | .any, _ => rfl
  | .und, _ => rfl
  | .int _ _, _ => rfl
  | .bool _, _ => rfl
  | .tt, _ => rfl
  | .ff, _ => rfl
  | .str _, _ => rfl
  | .flt _, _ => rfl
  | .cpx _ _, _ => rfl
  | .ptr _ _, _ => rfl
  | .ptx _ _, _ => rfl
  | .rptr _ _ _ _ _, _ => rfl
  | .osl _ _, _ => rfl
  | .sl _ _, _ => rfl
  | .ep _ _ _ _, _ => rfl
  | .oep _ _ _ _ _, _ => rfl
  | .nilsl, _ => rfl
  | .nilp, _ => rfl
  | .nb _, _ => rfl
  | .fsl _ _, _ => rfl
  | .lp _ _, _ => rfl
  | .own _ _ _, _ => rfl
  | .mpp _, _ => rfl
  | .itp _, _ => rfl
  | .otl _ _ _ _, _ => rfl
  | .csl _ _ _, _ => rfl
theorem forceVs_eq : ∀ (l : List SV) (k : List SV → Prop), forceVs l k = k l
  | [], _ => rfl
  | v :: r, k => by simp only [forceVs]; rw [forceV_eq v, forceVs_eq r]
end
theorem forceT_eq : ∀ (l : List (Nat × SV)) (k : List (Nat × SV) → Prop), forceT l k = k l
  | [], _ => rfl
  | (t, v) :: r, k => by simp only [forceT]; rw [forceV_eq v, forceT_eq r]
theorem forceC_eq : ∀ (c : Chunk) (k : Chunk → Prop), forceC c k = k c
  | .box t cs, k => by simp only [forceC]; rw [forceVs_eq cs]
  | .row _ _ _ _, _ => rfl
  | .froz _ _ _, _ => rfl
  | .gh v, k => by simp only [forceC]; rw [forceV_eq v]
  | .mp _ _ _ _ _, _ => rfl
  | .it _ _ _ _, _ => rfl
theorem forceM_eq : ∀ (l : List (Nat × Chunk)) (k : List (Nat × Chunk) → Prop), forceM l k = k l
  | [], _ => rfl
  | (t, c) :: r, k => by simp only [forceM]; rw [forceC_eq c, forceM_eq r]
theorem forceD_eq (s : St) (k : St → Prop) : forceD s k = k s := by unfold forceD; rw [forceT_eq, forceM_eq]

/-- What an operation writes, written out: boxes, and slices that are. -/
def forceB (op : Op) (ch : List (Nat × Chunk)) (k : List (Nat × Chunk) → Prop) : Prop :=
  match ch with
  | (c, .box t cs) :: r => forceVs cs (fun cs => k ((c, .box t cs) :: r))
  | (c, .row v e ks l) :: r => match op with
    | .buildSlice _ _ _ => forceVs l (fun l => k ((c, .row v e ks l) :: r))
    | _ => k ((c, .row v e ks l) :: r)
  | ch => k ch
theorem forceB_eq (op : Op) (ch : List (Nat × Chunk)) (k : List (Nat × Chunk) → Prop) : forceB op ch k = k ch := by
  unfold forceB
  split
  · rw [forceVs_eq]
  · split
    · rw [forceVs_eq]
    · rfl
  · rfl

/-- A region's operations, one by one, in the order of the text; what each has come to is kept. -/
def wpR (cx : Cx) (all : List Oper) (Q : St → List (Nat × Eff) → Prop) : List Oper → Nat → St → List (Nat × Eff) → Prop
  | [], _, s, fs => Q s fs
  | o :: r, i, s, fs =>
    match dOk cx o.dst, wantB all s.tm o with
    | true, some true =>
      match opx cx s.mem (ev s.tm) o with
      | ⟨ob, v, ch, rd⟩ =>
        obA ob (forceV v fun v => forceB o.op ch fun ch => match plV cx.pl v, isG all i with
          | .bool b, true => brP b (forceD (upd s o.dst .tt ch) fun s => wpR cx all Q r (i + 1) s ((i, ⟨ob, .tt, ch, rd⟩) :: fs)) (forceD (upd s o.dst .ff ch) fun s => wpR cx all Q r (i + 1) s ((i, ⟨ob, .ff, ch, rd⟩) :: fs))
          | v, _ => wpR cx all Q r (i + 1) (upd s o.dst v ch) ((i, ⟨ob, v, ch, rd⟩) :: fs))
    | true, some false => wpR cx all Q r (i + 1) (upd s o.dst .und []) ((i, ⟨none, .und, [], []⟩) :: fs)
    | _, _ => False
end Go.Rx

