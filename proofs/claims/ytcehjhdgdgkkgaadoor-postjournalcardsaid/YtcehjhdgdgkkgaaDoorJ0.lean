/- The framework, part 1: abstract values and the symbolic executor: what a function's code comes to, as a proposition without a program. -/
import GoSem.Claims
import Derived.WalkKit
import Derived.Orders
import Derived.KernelRfl
import Derived.Laws.ComplexArith
import Derived.Laws.Cover3
namespace Go.Rx

/-- The kind of a cell. -/
inductive CK where
  | int (k : IntKind)
  | bool
  | str
  | flt
  | cpx
  | sl (ks : List CK)
  | other

/-- Abstract values. -/
inductive SV where
  | any
  | und
  | int (k : IntKind) (n : Int)
  | bool (b : Bool)
  | tt
  | ff
  | str (s : List UInt8)
  | flt (b : Nat)
  | cpx (x y : Nat)
  | agg (cs : List SV)
  | tup (vs : List SV)
  | ptr (c off : Nat)
  | ptx (c off : Nat)
  | rptr (c sz i off ver : Nat)
  | osl (c ver : Nat)
  | sl (ks : List CK) (l : List SV)
  | ep (ks : List CK) (l : List SV) (i off : Nat)
  | oep (b : Bool) (ks : List CK) (l : List SV) (i off : Nat)
  | nilsl
  | nilp
  | fn (f : Nat) (caps : List SV)
  | nb (l : List SV)
  | fsl (ks : List CK) (l : List SV)
  | lp (t : Nat) (cs : List SV)
  | own (e : Nat) (ks : List CK) (l : List SV)
  | mpp (c : Nat)
  | itp (c : Nat)
  | otl (c sz k ver : Nat)

/-- Memory of a function's own. -/
inductive Chunk where
  | box (t : Nat) (cs : List SV)
  | row (ver e : Nat) (ks : List CK) (l : List SV)
  | froz (ver : Nat) (ks : List CK) (l : List SV)
  | gh (v : SV)
  | mp (t : Nat) (kk vk : CK) (l : List SV) (ck : Nat)
  | it (d since : Nat) (sn : List Nat) (last : Nat)

/-- What is known of a type. -/
inductive TK where
  | int (k : IntKind)
  | bool
  | str
  | flt
  | cpx
  | struct (fl : List (Nat × Nat))
  | arr (n e : Nat)
  | sl (e : Nat)
  | ptr (e : Nat)
  | mp (k e : Nat)
  | fn
  | tup
def TK.agg : TK → Bool
  | .struct _ => true
  | .arr _ _ => true
  | _ => false

structure TyL where
  k : TK
  ks : List CK
  bytes : Nat
  zero : List SV
  eq : Bool

/-- A contract. -/
structure Con where
  pre : List SV → Option Prop
  res : List SV → SV

/-- A function that is gone through where it is called: from its arguments and the memory; what must hold of its result and the memory behind it. The number: where the keys of its own memory begin. -/
abbrev Tr := Nat → List SV → List (Nat × Chunk) → (SV → List (Nat × Chunk) → Prop) → Prop

structure Cx where
  nt : Nat
  ty : List (Nat × TyL)
  fn : List (Nat × Con)
  lit : Bool
  off : Nat
  inl : List (Nat × Tr)
  pl : Bool

structure Ob (p : Prop) : Prop where
  out : p

def lk {α : Type} (d : α) : List (Nat × α) → Nat → α
  | [], _ => d
  | (k, v) :: r, n => match Nat.beq k n with
    | true => v
    | false => lk d r n

def lkO {α : Type} : List (Nat × α) → Nat → Option α
  | [], _ => none
  | (k, v) :: r, n => match Nat.beq k n with
    | true => some v
    | false => lkO r n

structure St where
  tm : List (Nat × SV)
  mem : List (Nat × Chunk)

def ofVal : Value → SV
  | .int k n => .int k n
  | .bool true => .tt
  | .bool false => .ff
  | .string s => .str s.data.toList
  | .float .f64 b => .flt b
  | .complex .f64 x y => .cpx x y
  | .slice none 0 0 => .nilsl
  | .pointer none => .nilp
  | _ => .any

def ev (tm : List (Nat × SV)) : Operand → SV
  | .tmp t => lk .any tm t
  | .const v => ofVal v
  | .func f => .fn f []
  | .global _ => .any

def SV.toInt : SV → Int
  | .int _ n => n
  | _ => 0
def SV.toBool : SV → Bool
  | .bool b => b
  | .tt => true
  | _ => false
def SV.toStr : SV → List UInt8
  | .str s => s
  | _ => []
def SV.toFlt : SV → Nat
  | .flt b => b
  | _ => 0
def SV.toRe : SV → Nat
  | .cpx x _ => x
  | _ => 0
def SV.toIm : SV → Nat
  | .cpx _ y => y
  | _ => 0
def SV.toSl : SV → List SV
  | .sl _ l => l
  | _ => []
def SV.cells : SV → List SV
  | .agg cs => cs
  | v => [v]

/-- A cell's value in the form that its kind tells. -/
def coerce : CK → SV → SV
  | .int k, v => .int k v.toInt
  | .bool, v => .bool v.toBool
  | .str, v => .str v.toStr
  | .flt, v => .flt v.toFlt
  | .cpx, v => .cpx v.toRe v.toIm
  | .sl ks, v => .sl ks v.toSl
  | .other, v => v

/-- Has a value the form that a kind tells? -/
def kOk : CK → SV → Prop
  | .int k, v => ∃ n, v = .int k n
  | .bool, v => v = .tt ∨ v = .ff ∨ ∃ b, v = .bool b
  | .str, v => ∃ s, v = .str s
  | .flt, v => ∃ b, v = .flt b
  | .cpx, v => ∃ x y, v = .cpx x y
  | .sl ks, v => v = .nilsl ∨ ∃ l, v = .sl ks l
  | .other, _ => True

/-- An element's cells are of their kinds. -/
def shOk (ks : List CK) (e : SV) : Prop := e.cells.length = ks.length ∧ ∀ j, j < ks.length → kOk (ks.getD j .other) (e.cells.getD j .any)

mutual
def ckEq : CK → CK → Bool
  | .int k, .int k' => decide (k = k')
  | .bool, .bool => true
  | .str, .str => true
  | .flt, .flt => true
  | .cpx, .cpx => true
  | .other, .other => true
  | .sl a, .sl b => cksEq a b
  | _, _ => false
def cksEq : List CK → List CK → Bool
  | [], [] => true
  | a :: r, b :: s => ckEq a b && cksEq r s
  | _, _ => false
end

/-- Is a value that is written out of a kind? -/
def kB : CK → SV → Bool
  | .int k, .int k' _ => decide (k = k')
  | .bool, .tt => true
  | .bool, .ff => true
  | .bool, .bool _ => true
  | .str, .str _ => true
  | .flt, .flt _ => true
  | .cpx, .cpx _ _ => true
  | .sl ks, .sl ks' _ => cksEq ks ks'
  | .sl _, .nilsl => true
  | _, _ => false

def elCell (l : List SV) (i off : Nat) : SV := ((l.getD i .any).cells).getD off .any

def andV (k : IntKind) (a b : Int) : Int := k.wrap ((BitVec.ofInt k.bits a &&& BitVec.ofInt k.bits b).toNat)
def orV (k : IntKind) (a b : Int) : Int := k.wrap ((BitVec.ofInt k.bits a ||| BitVec.ofInt k.bits b).toNat)
def xorV (k : IntKind) (a b : Int) : Int := k.wrap ((BitVec.ofInt k.bits a ^^^ BitVec.ofInt k.bits b).toNat)
def shlV (k : IntKind) (a b : Int) : Int := k.wrap (a * 2 ^ (min b.toNat k.bits))
def shrV (k : IntKind) (a b : Int) : Int := a.fdiv (2 ^ (min b.toNat k.bits))
/-- Is it a shift? -/
def isSh : BinOp → Bool
  | .shl => true
  | .shr => true
  | _ => false
/-- Arithmetic. -/
def ar (op : BinOp) (k : IntKind) (a b : Int) : SV :=
  match op with
  | .add => .int k (k.wrap (a + b))
  | .sub => .int k (k.wrap (a - b))
  | .mul => .int k (k.wrap (a * b))
  | .quo => .int k (k.wrap (a.tdiv b))
  | .rem => .int k (a.tmod b)
  | .eql => .bool (decide (a = b))
  | .neq => .bool (!decide (a = b))
  | .lss => .bool (decide (a < b))
  | .leq => .bool (decide (a ≤ b))
  | .gtr => .bool (decide (b < a))
  | .geq => .bool (decide (b ≤ a))
  | .and => .int k (andV k a b)
  | .or => .int k (orV k a b)
  | .xor => .int k (xorV k a b)
  | .shl => .int k (shlV k a b)
  | .shr => .int k (shrV k a b)
  | _ => .any
def arOb (op : BinOp) (b : Int) : Option Prop :=
  match op with
  | .add | .sub | .mul | .eql | .neq | .lss | .leq | .gtr | .geq | .and | .or | .xor => none
  | .quo | .rem => some (Ob (b ≠ 0))
  | .shl | .shr => some (Ob (0 ≤ b))
  | _ => some False

/-- '==' of two cells that are written out. -/
def eqV : SV → SV → Option Bool
  | .bool a, .bool b => some (a == b)
  | .tt, .bool b => some b
  | .ff, .bool b => some (!b)
  | .bool b, .tt => some b
  | .bool b, .ff => some (!b)
  | .tt, .tt => some true
  | .ff, .ff => some true
  | .tt, .ff => some false
  | .ff, .tt => some false
  | _, _ => none
def eqK : CK → SV → SV → Option Bool
  | .int _, .int k a, .int k' b => match decide (k = k') with
    | true => some (decide (a = b))
    | false => none
  | .str, .str a, .str b => some (decide (a = b))
  | .bool, a, b => eqV a b
  | _, _, _ => none
def eqVs : List CK → List SV → List SV → Option Bool
  | [], [], [] => some true
  | [k], [x], [y] => eqK k x y
  | k :: ks, x :: xs, y :: ys => match eqK k x y, eqVs ks xs ys with
    | some a, some b => some (a && b)
    | _, _ => none
  | _, _, _ => none

/-- A row's element, of its cells. -/
def elOf : List SV → SV
  | [u] => u
  | us => .agg us

def setL (cs : List SV) (off : Nat) : List SV → List SV
  | [] => cs
  | v :: r => setL (cs.set off v) (off + 1) r

/-- An element of a row, in which cells are written. -/
def stEl (sz : Nat) (e : SV) (off : Nat) (vs : List SV) : SV :=
  match Nat.beq sz 1 with
  | true => vs.getD 0 .any
  | false => .agg (setL e.cells off vs)

/-- Is a value one cell? -/
def oneB (m : List (Nat × Chunk)) : SV → Bool
  | .any => false
  | .und => false
  | .agg _ => false
  | .tup _ => false
  | .rptr _ _ _ _ _ => false
  | .otl _ _ _ _ => false
  | .lp _ _ => false
  | .own _ _ _ => false
  | .osl c ver => match lkO m c with
    | some (.row v _ _ _) => Nat.beq v ver
    | some (.froz v _ _) => Nat.beq v ver
    | _ => false
  | _ => true
def oneL (m : List (Nat × Chunk)) : List SV → Bool
  | [] => true
  | v :: r => oneB m v && oneL m r
def cellsB (m : List (Nat × Chunk)) : SV → Bool
  | .agg _ => true
  | v => oneB m v

/-- One operation: what it asks, its value, the memory that it writes, the memory that it reads. -/
structure Eff where
  ob : Option Prop
  v : SV
  ch : List (Nat × Chunk)
  rd : List Nat

def Eff.bad : Eff := ⟨some False, .any, [], []⟩
def Eff.val (v : SV) : Eff := ⟨none, v, [], []⟩

/-! ### Words of floats and of complex numbers -/
def fB (op : BinOp) (x y : Nat) : Nat := (floatBits op .f64 x y).getD 0
def fC (op : BinOp) (x y : Nat) : Bool :=
  match op with
  | .eql => FloatKind.f64.format.order x y == some .eq
  | .neq => FloatKind.f64.format.order x y != some .eq
  | .lss => FloatKind.f64.format.order x y == some .lt
  | .leq => FloatKind.f64.format.order x y == some .lt || FloatKind.f64.format.order x y == some .eq
  | .gtr => FloatKind.f64.format.order x y == some .gt
  | .geq => FloatKind.f64.format.order x y == some .gt || FloatKind.f64.format.order x y == some .eq
  | _ => false
def fI (n : Int) : Nat := FloatKind.f64.nearest n
def fTo (k : IntKind) (x : Nat) : Int := (floatToIntVal .f64 x k).getD 0
def fToOk (k : IntKind) (x : Nat) : Prop := (floatToIntVal .f64 x k).isSome = true
def fN (x : Nat) : Nat := Go.Op.negFloat .f64 x
def fOk (op : BinOp) (x y : Nat) : Prop := (floatBits op .f64 x y).isSome = true
def cM (a b c d : Nat) : Nat × Nat := (cMulBits a b c d).getD (0, 0)
def fltBin (op : BinOp) (a b : Nat) : Eff :=
  match op with
  | .add => ⟨some (Ob (fOk .add a b)), .flt (fB .add a b), [], []⟩
  | .sub => ⟨some (Ob (fOk .sub a b)), .flt (fB .sub a b), [], []⟩
  | .mul => ⟨some (Ob (fOk .mul a b)), .flt (fB .mul a b), [], []⟩
  | .quo => ⟨some (Ob (fOk .quo a b)), .flt (fB .quo a b), [], []⟩
  | .eql => .val (.bool (fC .eql a b))
  | .neq => .val (.bool (fC .neq a b))
  | .lss => .val (.bool (fC .lss a b))
  | .leq => .val (.bool (fC .leq a b))
  | .gtr => .val (.bool (fC .gtr a b))
  | .geq => .val (.bool (fC .geq a b))
  | _ => .bad
def cpxBin (op : BinOp) (a b c d : Nat) : Eff :=
  match op with
  | .add => ⟨some (Ob (fOk .add a c ∧ fOk .add b d)), .cpx (fB .add a c) (fB .add b d), [], []⟩
  | .sub => ⟨some (Ob (fOk .sub a c ∧ fOk .sub b d)), .cpx (fB .sub a c) (fB .sub b d), [], []⟩
  | .mul => ⟨some (Ob ((cMulBits a b c d).isSome = true)), .cpx (cM a b c d).1 (cM a b c d).2, [], []⟩
  | .eql => .val (.bool (fC .eql a c && fC .eql b d))
  | .neq => .val (.bool (!(fC .eql a c && fC .eql b d)))
  | _ => .bad

mutual
/-- Does a value say nothing of memory of the function's own? -/
def closed : SV → Bool
  | .ptr _ _ => false
  | .ptx _ _ => false
  | .rptr _ _ _ _ _ => false
  | .osl _ _ => false
  | .otl _ _ _ _ => false
  | .lp _ _ => false
  | .mpp _ => false
  | .itp _ => false
  | .agg cs => closedL cs
  | .tup cs => closedL cs
  | .fn _ cs => closedL cs
  | _ => true
def closedL : List SV → Bool
  | [] => true
  | v :: r => closed v && closedL r
end

mutual
/-- A value in whose place that of the function's own slices stand. -/
def resolve (m : List (Nat × Chunk)) : SV → SV
  | .osl c ver => match lkO m c with
    | some (.row v _ ks l) => match Nat.beq v ver with
      | true => .sl ks l
      | false => .osl c ver
    | some (.froz v ks l) => match Nat.beq v ver with
      | true => .sl ks l
      | false => .osl c ver
    | _ => .osl c ver
  | .agg cs => .agg (resolveL m cs)
  | .tup cs => .tup (resolveL m cs)
  | .fn f cs => .fn f (resolveL m cs)
  | v => v
def resolveL (m : List (Nat × Chunk)) : List SV → List SV
  | [] => []
  | v :: r => resolve m v :: resolveL m r
end

mutual
/-- Which of the function's own slices does a value name? -/
def names : SV → List Nat
  | .osl c _ => [c]
  | .agg cs => namesL cs
  | .tup cs => namesL cs
  | .fn _ cs => namesL cs
  | _ => []
def namesL : List SV → List Nat
  | [] => []
  | v :: r => names v ++ namesL r
end

/-- These slices may be written no more. -/
def freezes (m : List (Nat × Chunk)) : List Nat → List (Nat × Chunk)
  | [] => []
  | c :: r => match lkO m c with
    | some (.row v _ ks l) => (c, .froz v ks l) :: freezes m r
    | _ => freezes m r

def tyOf (cx : Cx) (t : Nat) : Option TyL := lkO cx.ty t

mutual
/-- Does a value hold no address? -/
def plainR : SV → Bool
  | .any => true
  | .int _ _ => true
  | .bool _ => true
  | .tt => true
  | .ff => true
  | .str _ => true
  | .flt _ => true
  | .cpx _ _ => true
  | .nilsl => true
  | .nilp => true
  | .tup cs => plainRs cs
  | .agg cs => plainRs cs
  | _ => false
def plainRs : List SV → Bool
  | [] => true
  | v :: r => plainR v && plainRs r
end

/-- A cell of a lent box: a map of one's own is lent, too. -/
def lendC (m : List (Nat × Chunk)) (v : SV) : SV :=
  match v with
  | .mpp d => match lkO m d with
    | some (.mp ty kk vk l _) => .own ty [kk, vk, .int .i64] l
    | _ => .mpp d
  | v => resolve m v
def lendCs (m : List (Nat × Chunk)) : List SV → List SV
  | [] => []
  | v :: r => lendC m v :: lendCs m r
def namC (v : SV) : List Nat :=
  match v with
  | .mpp d => [d]
  | v => names v
def namCs : List SV → List Nat
  | [] => []
  | v :: r => namC v ++ namCs r
/-- Arguments: a pointer to a box of the caller's own is lent. -/
def lend (m : List (Nat × Chunk)) (v : SV) : SV :=
  match v with
  | .ptr c off => match off with
    | 0 => match lkO m c with
      | some (.box t cs) => .lp t (lendCs m cs)
      | _ => .ptr c off
    | _ => .ptr c off
  | v => resolve m v
def lendL (m : List (Nat × Chunk)) : List SV → List SV
  | [] => []
  | v :: r => lend m v :: lendL m r
def lnames (m : List (Nat × Chunk)) (v : SV) : List Nat :=
  match v with
  | .ptr c off => match off with
    | 0 => match lkO m c with
      | some (.box _ cs) => namCs cs
      | _ => []
    | _ => []
  | v => names v
def lnamesL (m : List (Nat × Chunk)) : List SV → List Nat
  | [] => []
  | v :: r => lnames m v ++ lnamesL m r
def lboxes : List SV → List Nat
  | [] => []
  | .ptr c _ :: r => c :: lboxes r
  | _ :: r => lboxes r
def closedA : SV → Bool
  | .lp _ cs => closedL cs
  | v => closed v
def closedAL : List SV → Bool
  | [] => true
  | v :: r => closedA v && closedAL r
/-- Names of boxes that may be read, and never written. -/
def roK (c : Nat) : Bool := Nat.ble 9990 (c % 10000)

/-- The first slice of a result that is the caller's own from now on. -/
def ownI : List SV → Nat → Option (Nat × Nat × List CK × List SV)
  | [], _ => none
  | v :: r, j => match v with
    | .own e ks l => some (j, e, ks, l)
    | _ => ownI r (j + 1)
def ownAt : SV → Option (Option Nat × Nat × List CK × List SV)
  | .own e ks l => some (none, e, ks, l)
  | .tup rs => match ownI rs 0 with
    | some (j, e, ks, l) => some (some j, e, ks, l)
    | none => none
  | _ => none
def ownPut (j : Option Nat) (u : SV) (v : SV) : SV :=
  match j with
  | none => u
  | some j => match v with
    | .tup rs => .tup (rs.set j u)
    | v => v
def ownGet (j : Option Nat) (v : SV) : SV :=
  match j with
  | none => v
  | some j => match v with
    | .tup rs => rs.getD j .any
    | _ => .any
def ownKey (cx : Cx) (d : Nat) (j : Option Nat) : Nat :=
  match j with
  | none => cx.off + d
  | some j => cx.off + 2000 + 10 * d + j
/-- Kinds of which no cell holds an address. -/
def flatK : List CK → Bool
  | [] => true
  | k :: r => (match k with
    | .sl _ => false
    | .other => false
    | _ => true) && flatK r

/-- A call by its contract. What hands back nothing but plain values keeps no slice: those that went with it may be written again. -/
def callOf (cx : Cx) (m : List (Nat × Chunk)) (dst : Option Nat) (f : Nat) (args : List SV) : Eff :=
  match lkO cx.fn f with
  | some c =>
    let as := lendL m args
    match closedAL as with
    | true => match ownAt (c.res as) with
      | none => match plainR (c.res as) with
        | true => ⟨c.pre as, c.res as, [], lboxes args ++ lnamesL m args⟩
        | false => ⟨c.pre as, c.res as, freezes m (lnamesL m args), lboxes args ++ lnamesL m args⟩
      | some (j, e, ks, l) => match dst with
        | some d => match lkO m (ownKey cx d j) with
          | none => match flatK ks && plainR (ownPut j .any (c.res as)) with
            | true => ⟨c.pre as, ownPut j (.osl (ownKey cx d j) 0) (c.res as), [(ownKey cx d j, .row 0 e ks l)], ownKey cx d j :: (lboxes args ++ lnamesL m args)⟩
            | false => ⟨c.pre as, ownPut j (.osl (ownKey cx d j) 0) (c.res as), (ownKey cx d j, .row 0 e ks l) :: freezes m (lnamesL m args), ownKey cx d j :: (lboxes args ++ lnamesL m args)⟩
          | some _ => .bad
        | none => .bad
    | false => .bad
  | none => .bad

/-- What a variable of a type holds, cell by cell, off memory that is written out. -/
def ldAt (L : TyL) (cs : List SV) (off : Nat) : SV :=
  match L.k.agg with
  | true => .agg ((cs.drop off).take L.ks.length)
  | false => cs.getD off .any

def mkCells : List CK → (Nat → SV) → Nat → List SV
  | [], _, _ => []
  | k :: r, f, j => coerce k (f j) :: mkCells r f (j + 1)

/-- .. off memory of which the kinds of the cells are known. -/
def ldBy (L : TyL) (f : Nat → SV) : SV :=
  match L.k.agg with
  | true => .agg (mkCells L.ks f 0)
  | false => coerce (L.ks.headD .other) (f 0)

def ksOk (ks : List CK) (f : Nat → SV) : Prop := ∀ j, j < ks.length → kOk (ks.getD j .other) (f j)

def fieldOff (cx : Cx) (t f : Nat) : Option Nat :=
  match tyOf cx t with
  | some L => match L.k with
    | .struct fl => match fl[f]? with
      | some (o, _) => some o
      | none => none
    | _ => none
  | none => none

/-- The cells of a row of values, for memory. -/
def flat : List SV → List SV
  | [] => []
  | v :: r => v.cells ++ flat r

def kBs : List CK → List SV → Bool
  | [], [] => true
  | k :: r, v :: s => kB k v && kBs r s
  | _, _ => false
def kBsL (ks : List CK) : List SV → Bool
  | [] => true
  | v :: r => kBs ks v.cells && kBsL ks r

/-- A slice's contents, whoever owns it. -/
def rowOf (m : List (Nat × Chunk)) : SV → Option (List CK × List SV × List Nat)
  | .sl ks l => some (ks, l, [])
  | .fsl ks l => some (ks, l, [])
  | .nilsl => some ([], [], [])
  | .osl c ver => match lkO m c with
    | some (.row v _ ks l) => match Nat.beq v ver with
      | true => some (ks, l, [c])
      | false => none
    | some (.froz v ks l) => match Nat.beq v ver with
      | true => some (ks, l, [c])
      | false => none
    | _ => none
  | _ => none

/-- Kinds of which each cell is one plain value. -/
def plainK : List CK → Bool
  | [] => true
  | .other :: _ => false
  | _ :: r => plainK r

def minV (a b : Int) : Int := if b < a then b else a
def maxV (a b : Int) : Int := if a < b then b else a

def bytesOf (l : List SV) : List UInt8 := l.map fun v => UInt8.ofNat (v.cells.getD 0 .any).toInt.toNat

def convOf (cx : Cx) (m : List (Nat × Chunk)) (s d : Nat) (v : SV) : Eff :=
  match tyOf cx s, tyOf cx d with
  | some S, some L => match L.k with
    | .int k => match v with
      | .int _ n => .val (.int k (k.wrap n))
      | .flt b => ⟨some (Ob (fToOk k b)), .int k (fTo k b), [], []⟩
      | _ => .bad
    | .flt => match v with
      | .int _ n => .val (.flt (fI n))
      | _ => .bad
    | .str => match S.k with
      | .str => match v with
        | .str b => .val (.str b)
        | _ => .bad
      | .sl e => match tyOf cx e, rowOf m v with
        | some E, some (ks, l, rd) => match E.k with
          | .int k => match decide (k = .u8), cksEq ks [.int .u8] with
            | true, true => ⟨none, .str (bytesOf l), [], rd⟩
            | _, _ => .bad
          | _ => .bad
        | _, _ => .bad
      | _ => .bad
    | _ => .bad
  | _, _ => .bad

def lenOf (cx : Cx) (m : List (Nat × Chunk)) : List Nat → List SV → Eff
  | [t], [v] => match tyOf cx t with
    | some L => match L.k with
      | .str => match v with
        | .str l => .val (.int .i64 l.length)
        | _ => .bad
      | .sl _ => match rowOf m v with
        | some (_, l, rd) => ⟨none, .int .i64 l.length, [], rd⟩
        | none => .bad
      | _ => .bad
    | none => .bad
  | _, _ => .bad

def minOf : List SV → Eff
  | [u, v] => match u, v with
    | .int k a, .int _ b => .val (.int k (minV a b))
    | _, _ => .bad
  | _ => .bad
def maxOf : List SV → Eff
  | [u, v] => match u, v with
    | .int k a, .int _ b => .val (.int k (maxV a b))
    | _, _ => .bad
  | _ => .bad

/-- The next version of a name for a slice. -/
def nextV : Option Chunk → Option Nat
  | none => some 0
  | some (.row v _ _ _) => some (v + 1)
  | some (.froz v _ _) => some (v + 1)
  | _ => none

/-- 'append': onto a slice of the function's own, onto nil, or onto a full one. -/
def appOf (cx : Cx) (m : List (Nat × Chunk)) (dst : Option Nat) : List Nat → List SV → Eff
  | [t, t'], [v, w] => match rowOf m w, tyOf cx t, Nat.beq t t' with
    | some (ks', l', rd'), some L, true => match L.k with
      | .sl e => match tyOf cx e with
        | some Le => match cksEq ks' Le.ks && plainK Le.ks && Nat.blt 0 Le.ks.length with
          | true => match v with
            | .nilsl => match dst with
              | some d => match lkO m (cx.off + d) with
                | none => ⟨some (Ob (l'.length * Le.bytes ≤ 1099511627776 ∧ l'.length ≤ 1099511627776)), .osl (cx.off + d) 0, [(cx.off + d, .row 0 e Le.ks l')], (cx.off + d) :: rd'⟩
                | some _ => .bad
              | none => .bad
            | .osl c ver => match lkO m c with
              | some (.row v e' ks l) => match Nat.beq v ver && Nat.beq e e' && cksEq ks Le.ks && !(rd'.contains c) with
                | true => ⟨some (Ob ((l.length + l'.length) * Le.bytes ≤ 1099511627776 ∧ l.length + l'.length ≤ 1099511627776)), .osl c (ver + 1), [(c, .row (ver + 1) e ks (l ++ l'))], c :: rd'⟩
                | false => .bad
              | _ => .bad
            | .fsl ks l => match dst, cksEq ks Le.ks with
              | some d, true => match nextV (lkO m (cx.off + d)) with
                | some ver => ⟨some (Ob ((l = [] ∨ 0 < l'.length) ∧ (l.length + l'.length) * Le.bytes ≤ 1099511627776 ∧ l.length + l'.length ≤ 1099511627776)), .osl (cx.off + d) ver, [(cx.off + d, .row ver e Le.ks (l ++ l'))], (cx.off + d) :: rd'⟩
                | none => .bad
              | _, _ => .bad
            | _ => .bad
          | false => .bad
        | none => .bad
      | _ => .bad
    | _, _, _ => .bad
  | _, _ => .bad

def cpxOf : List SV → Eff
  | [u, v] => match u, v with
    | .flt a, .flt b => .val (.cpx a b)
    | _, _ => .bad
  | _ => .bad
def reOf : List SV → Eff
  | [u] => match u with
    | .cpx a _ => .val (.flt a)
    | _ => .bad
  | _ => .bad
def imOf : List SV → Eff
  | [u] => match u with
    | .cpx _ b => .val (.flt b)
    | _ => .bad
  | _ => .bad

/-- A row into which another one was copied, from its beginning on. -/
def copyL (l l' : List SV) : List SV := l'.take l.length ++ l.drop l'.length
/-- 'copy' into a slice of the function's own. -/
def copyOf (cx : Cx) (m : List (Nat × Chunk)) : List Nat → List SV → Eff
  | [t, _], [v, w] => match rowOf m w, tyOf cx t with
    | some (ks', l', rd'), some L => match L.k with
      | .sl e => match tyOf cx e with
        | some Le => match v with
          | .osl c ver => match lkO m c with
            | some (.row v e' ks l) => match Nat.beq v ver && cksEq ks Le.ks && cksEq ks' Le.ks && plainK Le.ks && !(rd'.contains c) with
              | true => ⟨none, .int .i64 (Nat.min l'.length l.length : Nat), [(c, .row v e' ks (copyL l l'))], c :: rd'⟩
              | false => .bad
            | _ => .bad
          | _ => .bad
        | none => .bad
      | _ => .bad
    | _, _ => .bad
  | _, _ => .bad

/-- 'clear' of the end of a slice of the function's own. -/
def clrOf (cx : Cx) (m : List (Nat × Chunk)) : List Nat → List SV → Eff
  | [t], [v] => match v, tyOf cx t with
    | .otl c sz k ver, some L => match L.k with
      | .sl e => match tyOf cx e, lkO m c with
        | some Le, some (.row v' e' ks l) => match Nat.beq v' ver && cksEq ks Le.ks && kBs Le.ks Le.zero && Nat.beq sz ks.length && plainK ks && Nat.blt 0 ks.length with
          | true => ⟨some (Ob (k ≤ l.length)), .any, [(c, .row v' e' ks (l.take k ++ List.replicate (l.length - k) (elOf Le.zero)))], [c]⟩
          | false => .bad
        | _, _ => .bad
      | _ => .bad
    | _, _ => .bad
  | _, _ => .bad

def builtinOf (cx : Cx) (m : List (Nat × Chunk)) (b : Builtin) (ts : List Nat) (dst : Option Nat) (args : List SV) : Eff :=
  match b with
  | .len => lenOf cx m ts args
  | .min => minOf args
  | .max => maxOf args
  | .append => appOf cx m dst ts args
  | .complex => cpxOf args
  | .real => reOf args
  | .imag => imOf args
  | .copy => copyOf cx m ts args
  | .clear => clrOf cx m ts args
  | _ => .bad

/-- A literal's parts, laid where they belong. -/
def fillS (m : List (Nat × Chunk)) (g : Operand → SV) (place : Nat → Option (Nat × Nat)) : List (Nat × Operand) → List SV → Option (List SV)
  | [], cs => some cs
  | (i, x) :: r, cs => match place i with
    | some (off, sz) => match Nat.beq (g x).cells.length sz, cellsB m (g x), Nat.ble (off + sz) cs.length with
      | true, true, true => fillS m g place r (setL cs off (g x).cells)
      | _, _, _ => none
    | none => none

def bOf : SV → Option Bool
  | .tt => some true
  | .ff => some false
  | .bool b => some b
  | _ => none

/-- Is a pointer nil? -/
def isNilP : SV → SV
  | .nilp => .tt
  | .ep _ _ _ _ => .ff
  | .ptr _ _ => .ff
  | .oep b _ _ _ _ => .bool (!b)
  | _ => .any
def notV : SV → SV
  | .tt => .ff
  | .ff => .tt
  | .bool b => .bool (!b)
  | _ => .any
def anyB : SV → Bool
  | .any => true
  | _ => false
/-- A pointer held against nil. -/
def ptrCmp (op : BinOp) (n b : SV) : Eff :=
  match b with
  | .nilp => match anyB n with
    | true => .bad
    | false => match op with
      | .eql => .val n
      | .neq => .val (notV n)
      | _ => .bad
  | _ => .bad

/-- A slice held against nil: if it is, it has no elements. -/
def nilCmp (m : List (Nat × Chunk)) (op : BinOp) (a b : SV) : Eff :=
  match op, b with
  | .eql, .nilsl => match a with
    | .nilsl => .val .tt
    | .sl _ l => .val (.nb l)
    | .osl c ver => match lkO m c with
      | some (.row v _ _ l) => match Nat.beq v ver with
        | true => ⟨none, .nb l, [], [c]⟩
        | false => .bad
      | some (.froz v _ l) => match Nat.beq v ver with
        | true => ⟨none, .nb l, [], [c]⟩
        | false => .bad
      | _ => .bad
    | _ => .bad
  | _, _ => .bad
/-- Where all is plain: is this all of it? -/
def fullB (pl : Bool) (b : Int) (l : List SV) : Bool :=
  match pl with
  | true => decide (b = l.length)
  | false => false
/-- A part of a slice that nobody writes. -/
def slPart (Le : TyL) (ks : List CK) (l : List SV) (rd : List Nat) (lo hi : Option SV) : Eff :=
  match Nat.beq Le.ks.length ks.length with
  | true => match lo, hi with
    | some (.int _ a), none => ⟨some (Ob (0 ≤ a ∧ a ≤ l.length)), .sl ks (l.drop a.toNat), [], rd⟩
    | none, some (.int _ b) => ⟨some (Ob (0 ≤ b ∧ b ≤ l.length)), .sl ks (l.take b.toNat), [], rd⟩
    | some (.int _ a), some (.int _ b) => ⟨some (Ob (0 ≤ a ∧ a ≤ b ∧ b ≤ l.length)), .sl ks ((l.take b.toNat).drop a.toNat), [], rd⟩
    | _, _ => .bad
  | false => .bad

/-- A slice of which all that may be appended to is what it has. -/
def sl3Of (Le : TyL) (m : List (Nat × Chunk)) (x : SV) (a b : Int) : Eff :=
  match x with
  | .nilsl => ⟨some (Ob (a = 0 ∧ b = 0)), .nilsl, [], []⟩
  | .sl ks l => match Nat.beq Le.ks.length ks.length with
    | true => ⟨some (Ob (a = l.length ∧ b = l.length)), .fsl ks l, [], []⟩
    | false => .bad
  | .osl c ver => match lkO m c with
    | some (.row v _ ks l) => match Nat.beq v ver && Nat.beq Le.ks.length ks.length with
      | true => ⟨some (Ob (a = l.length ∧ b = l.length)), .fsl ks l, [(c, .froz v ks l)], [c]⟩
      | false => .bad
    | some (.froz v ks l) => match Nat.beq v ver && Nat.beq Le.ks.length ks.length with
      | true => ⟨some (Ob (a = l.length ∧ b = l.length)), .fsl ks l, [], [c]⟩
      | false => .bad
    | _ => .bad
  | _ => .bad

/-- A slice without elements, and without room. -/
def slZOf (Le : TyL) (ks : List CK) (_l : List SV) : Eff :=
  match Nat.beq Le.ks.length ks.length with
  | true => .val (.fsl ks [])
  | false => .bad
/-- Is it the number 0, as it is written? -/
def isZ : Operand → Bool
  | .const (.int _ (.ofNat 0)) => true
  | _ => false

def sl3Z (z : Bool) (Le : TyL) (m : List (Nat × Chunk)) (x y u : SV) : Eff :=
  match z, x with
  | true, .sl ks l => slZOf Le ks l
  | _, x => match y, u with
    | .int _ a, .int _ b => sl3Of Le m x a b
    | _, _ => .bad
theorem sl3Z_no {z : Bool} {Le : TyL} {m : List (Nat × Chunk)} {x y u : SV} (h : ∀ ks l, z = true → x ≠ .sl ks l) : sl3Z z Le m x y u = (match y, u with
    | .int _ a, .int _ b => sl3Of Le m x a b
    | _, _ => .bad) := by
  unfold sl3Z
  split
  · exact absurd rfl (h _ _ rfl)
  · rfl

/-! ### Maps -/
def keyEq : SV → SV → Bool
  | .str a, .str b => decide (a = b)
  | .int _ a, .int _ b => decide (a = b)
  | _, _ => false
/-- What stands at a key. -/
def mpGet : List SV → SV → Option SV
  | [], _ => none
  | e :: r, k => match keyEq k (e.cells.getD 0 .any) with
    | true => some (e.cells.getD 1 .any)
    | false => mpGet r k
def mpV (l : List SV) (k : SV) : SV := (mpGet l k).getD .any
def mpHas (l : List SV) (k : SV) : Bool := (mpGet l k).isSome
/-- .. written where it stands. -/
def mpMod : List SV → SV → SV → List SV
  | [], _, _ => []
  | e :: r, k, v => match keyEq k (e.cells.getD 0 .any) with
    | true => .agg [e.cells.getD 0 .any, v, e.cells.getD 2 .any] :: r
    | false => e :: mpMod r k v
def mpPut (l : List SV) (ck : Nat) (k v : SV) : List SV :=
  match mpHas l k with
  | true => mpMod l k v
  | false => l ++ [.agg [k, v, .int .i64 ck]]
def mpCk (l : List SV) (ck : Nat) (k : SV) : Nat :=
  match mpHas l k with
  | true => ck
  | false => ck + 1
def mpDel : List SV → SV → List SV
  | [], _ => []
  | e :: r, k => match keyEq k (e.cells.getD 0 .any) with
    | true => r
    | false => e :: mpDel r k
/-- Is a value a key, or an element, of a kind; of which kinds may they be? -/
def mpKey : CK → SV → Bool
  | .str, .str _ => true
  | .int .i64, .int .i64 _ => true
  | _, _ => false
def mpVal : CK → SV → Bool
  | .str, .str _ => true
  | .int k, .int k' _ => decide (k = k')
  | .bool, .bool _ => true
  | .bool, .tt => true
  | .bool, .ff => true
  | _, _ => false
def mpKk (L : TyL) : Option CK :=
  match L.k with
  | .str => some .str
  | .int .i64 => some (.int .i64)
  | _ => none
def mpVk (L : TyL) : Option CK :=
  match L.k with
  | .str => some .str
  | .int k => some (.int k)
  | .bool => some .bool
  | _ => none
def kkB (L : TyL) (k : CK) : Bool :=
  match mpKk L with
  | some k' => ckEq k' k
  | none => false
def vkB (L : TyL) (k : CK) : Bool :=
  match mpVk L with
  | some k' => ckEq k' k
  | none => false
def mpZero : CK → SV
  | .str => .str []
  | .int k => .int k 0
  | .bool => .ff
  | _ => .any
def mkMap (cx : Cx) (m : List (Nat × Chunk)) (dst : Option Nat) (t : Nat) : Eff :=
  match dst, tyOf cx t with
  | some d, some L => match L.k with
    | .mp k e => match tyOf cx k, tyOf cx e with
      | some Lk, some Le => match mpKk Lk, mpVk Le, lkO m (cx.off + d) with
        | some kk, some vk, none => ⟨none, .mpp (cx.off + d), [(cx.off + d, .mp t kk vk [] 0)], [cx.off + d]⟩
        | _, _, _ => .bad
      | _, _ => .bad
    | _ => .bad
  | _, _ => .bad
def zB0 : SV → Bool
  | .int _ 0 => true
  | .ff => true
  | .str [] => true
  | _ => false
def lookMap (cx : Cx) (m : List (Nat × Chunk)) (t : Nat) (x k : SV) (ok : Bool) : Eff :=
  match x, tyOf cx t with
  | .mpp c, some L => match L.k, lkO m c with
    | .mp tk te, some (.mp _ kk vk l _) => match tyOf cx tk, tyOf cx te with
      | some Lk, some Le => match kkB Lk kk && vkB Le vk && mpKey kk k, Le.zero with
        | true, [z] => match mpVal vk z && zB0 z with
          | true => ⟨none, (match ok with
            | true => .tup [coerce vk (mpV l k), .bool (mpHas l k)]
            | false => coerce vk (mpV l k)), [], [c]⟩
          | false => .bad
        | _, _ => .bad
      | _, _ => .bad
    | _, _ => .bad
  | _, _ => .bad
def putMap (cx : Cx) (m : List (Nat × Chunk)) (t : Nat) (x k v : SV) : Eff :=
  match x, tyOf cx t with
  | .mpp c, some L => match L.k, lkO m c with
    | .mp tk _, some (.mp t' kk vk l ck) => match tyOf cx tk with
      | some Lk => match kkB Lk kk && mpKey kk k && mpVal vk v && !(roK c) with
        | true => ⟨none, .und, [(c, .mp t' kk vk (mpPut l ck k v) (mpCk l ck k))], [c]⟩
        | false => .bad
      | none => .bad
    | _, _ => .bad
  | _, _ => .bad

def delMap (cx : Cx) (m : List (Nat × Chunk)) : List Nat → List SV → Eff
  | [t, _], [x, k] => match x, tyOf cx t with
    | .mpp c, some L => match L.k, lkO m c with
      | .mp tk _, some (.mp t' kk vk l ck) => match tyOf cx tk with
        | some Lk => match kkB Lk kk && mpKey kk k && !(roK c) with
          | true => ⟨none, .any, [(c, .mp t' kk vk (mpDel l k) ck)], [c]⟩
          | false => .bad
        | none => .bad
      | _, _ => .bad
    | _, _ => .bad
  | _, _ => .bad

/-- An entry's stamp; the entry of a stamp. -/
def mpS (l : List SV) (j : Nat) : Nat := (elCell l j 2).toInt.toNat
def mpAt : List SV → Nat → Option SV
  | [], _ => none
  | e :: r, n => match Nat.beq (e.cells.getD 2 .any).toInt.toNat n with
    | true => some e
    | false => mpAt r n
/-- .. its value written. -/
def mpSet : List SV → Nat → SV → List SV
  | [], _, _ => []
  | e :: r, n, v => match Nat.beq (e.cells.getD 2 .any).toInt.toNat n with
    | true => .agg [e.cells.getD 0 .any, v, e.cells.getD 2 .any] :: r
    | false => e :: mpSet r n v
/-- The stamp of what stands at a key, or of what comes there. -/
def mpStK : List SV → Nat → SV → Int
  | [], ck, _ => ck
  | e :: r, ck, k => match keyEq k (e.cells.getD 0 .any) with
    | true => (e.cells.getD 2 .any).toInt
    | false => mpStK r ck k
/-- .. with a zero where nothing stands. -/
def mpEnt (l : List SV) (ck : Nat) (vk : CK) (k : SV) : List SV :=
  match mpHas l k with
  | true => l
  | false => l ++ [.agg [k, coerce vk .any, .int .i64 ck]]
def entMap (cx : Cx) (m : List (Nat × Chunk)) (t : Nat) (x k : SV) : Eff :=
  match x, tyOf cx t with
  | .mpp c, some L => match L.k, lkO m c with
    | .mp tk te, some (.mp t' kk vk l ck) => match tyOf cx tk, tyOf cx te with
      | some Lk, some Le => match kkB Lk kk && vkB Le vk && mpKey kk k && !(roK c), Le.zero with
        | true, [z] => match mpVal vk z && zB0 z with
          | true => ⟨none, .tup [coerce vk (mpV l k), .int .i64 (mpStK l ck k)], [(c, .mp t' kk vk (mpEnt l ck vk k) (mpCk l ck k))], [c]⟩
          | false => .bad
        | _, _ => .bad
      | _, _ => .bad
    | _, _ => .bad
  | _, _ => .bad
def stoMap (m : List (Nat × Chunk)) (x st v : SV) : Eff :=
  match x, st with
  | .mpp c, .int .i64 n => match lkO m c with
    | some (.mp t' kk vk l ck) => match mpVal vk v && !(roK c) with
      | true => ⟨some (Ob (0 ≤ n ∧ (mpAt l n.toNat).isSome = true)), .und, [(c, .mp t' kk vk (mpSet l n.toNat v) ck)], [c]⟩
      | false => .bad
    | _ => .bad
  | _, _ => .bad
def rngMap (cx : Cx) (m : List (Nat × Chunk)) (dst : Option Nat) (t : Nat) (x : SV) : Eff :=
  match x, tyOf cx t, dst with
  | .mpp c, some L, some d => match L.k, lkO m c, lkO m (cx.off + d) with
    | .mp _ _, some (.mp _ _ _ _ ck), none => ⟨none, .itp (cx.off + d), [(cx.off + d, .it c ck [] ck)], [cx.off + d, c]⟩
    | _, _, _ => .bad
  | _, _, _ => .bad
def itMap (m : List (Nat × Chunk)) (x : SV) : Eff :=
  match x with
  | .itp c => match lkO m c with
    | some (.it d _ (n :: _) last) => match lkO m d with
      | some (.mp _ kk vk l ck) => ⟨some (Ob (last = ck ∧ (mpAt l n).isSome = true)), .tup [coerce kk (((mpAt l n).getD .any).cells.getD 0 .any), coerce vk (((mpAt l n).getD .any).cells.getD 1 .any)], [], [c, d]⟩
      | _ => .bad
    | _ => .bad
  | _ => .bad

def opE (cx : Cx) (m : List (Nat × Chunk)) (g : Operand → SV) (dst : Option Nat) (op : Op) : Eff :=
  match op with
  | .move x => .val (g x)
  | .assign x => .val (g x)
  | .pick c a b => match g c with
    | .tt => .val (g a)
    | .ff => .val (g b)
    | .bool x => match bOf (g a), bOf (g b) with
      | some p, some q => .val (.bool (cond x p q))
      | _, _ => .bad
    | _ => .bad
  | .alloc t => match dst, tyOf cx t with
    | some d, some L => match lkO m (cx.off + d) with
      | none => ⟨none, .ptr (cx.off + d) 0, [(cx.off + d, .box t L.zero)], [cx.off + d]⟩
      | some _ => .bad
    | _, _ => .bad
  | .box t x => match dst with
    | some d => match lkO m (cx.off + d), cellsB m (g x) with
      | none, true => ⟨none, .ptr (cx.off + d) 0, [(cx.off + d, .box t (g x).cells)], (cx.off + d) :: names (g x)⟩
      | _, _ => .bad
    | none => .bad
  | .build t ps => match tyOf cx t with
    | some L => match L.k with
      | .struct fl => match fillS m g (fun i => match fl[i]? with
        | some (o, ft) => match tyOf cx ft with
          | some Lf => some (o, Lf.ks.length)
          | none => none
        | none => none) ps.toList L.zero with
        | some cs => ⟨none, .agg cs, [], namesL (ps.toList.map fun (_, x) => g x)⟩
        | none => .bad
      | .arr _ e => match tyOf cx e with
        | some Le => match fillS m g (fun i => some (i * Le.ks.length, Le.ks.length)) ps.toList L.zero with
          | some cs => ⟨none, .agg cs, [], namesL (ps.toList.map fun (_, x) => g x)⟩
          | none => .bad
        | none => .bad
      | _ => .bad
    | none => .bad
  | .load t a => match tyOf cx t with
    | some L => match g a with
      | .ptr c off => match lkO m c with
        | some (.box _ cs) => match Nat.ble (off + L.ks.length) cs.length with
          | true => ⟨none, ldAt L cs off, [], [c]⟩
          | false => .bad
        | _ => .bad
      | .ptx c off => match lkO m c with
        | some (.box _ cs) => ⟨some (Ob (off + L.ks.length ≤ cs.length ∧ ksOk L.ks fun j => cs.getD (off + j) .any)), ldBy L (fun j => cs.getD (off + j) .any), [], [c]⟩
        | _ => .bad
      | .ep ks l i off => match cksEq ((ks.drop off).take L.ks.length) L.ks with
        | true => .val (ldBy L fun j => elCell l i (off + j))
        | false => .bad
      | .rptr c sz i off ver => match lkO m c with
        | some (.row v _ ks l) => match Nat.beq v ver && Nat.beq sz ks.length && cksEq ((ks.drop off).take L.ks.length) L.ks with
          | true => ⟨some (Ob (i < l.length)), ldBy L (fun j => elCell l i (off + j)), [], [c]⟩
          | false => .bad
        | _ => .bad
      | _ => .bad
    | none => .bad
  | .store t a x => match tyOf cx t with
    | some L => match Nat.beq (g x).cells.length L.ks.length, cellsB m (g x), oneL m (g x).cells with
      | true, true, true => match g a with
        | .ptr c off => match lkO m c with
          | some (.box bt cs) => match Nat.ble (off + L.ks.length) cs.length && !(roK c) with
            | true => ⟨none, .und, [(c, .box bt (setL cs off (g x).cells))], c :: names (g x)⟩
            | false => .bad
          | _ => .bad
        | .ptx c off => match lkO m c with
          | some (.box bt cs) => match roK c with
            | false => ⟨some (Ob (off + L.ks.length ≤ cs.length)), .und, [(c, .box bt (setL cs off (g x).cells))], c :: names (g x)⟩
            | true => .bad
          | _ => .bad
        | .rptr c sz i off ver => match lkO m c with
          | some (.row v e ks l) => match Nat.beq v ver && Nat.beq sz ks.length && cksEq ((ks.drop off).take L.ks.length) L.ks && kBs L.ks (resolveL m (g x).cells) && Nat.blt 0 L.ks.length && !((names (g x)).contains c) with
            | true => ⟨some (Ob (i < l.length)), .und, (c, .row v e ks (l.set i (stEl sz (l.getD i .any) off (resolveL m (g x).cells)))) :: freezes m (names (g x)), c :: names (g x)⟩
            | false => .bad
          | _ => .bad
        | _ => .bad
      | _, _, _ => .bad
    | none => .bad
  | .fieldAddr t x f => match fieldOff cx t f, g x with
    | some o, .ptr c off => .val (.ptr c (off + o))
    | some o, .ptx c off => .val (.ptx c (off + o))
    | some o, .ep ks l i off => .val (.ep ks l i (off + o))
    | some o, .rptr c sz i off ver => match lkO m c with
      | some (.row v _ _ l) => match Nat.beq v ver with
        | true => ⟨some (Ob (i < l.length)), .rptr c sz i (off + o) ver, [], [c]⟩
        | false => .bad
      | _ => .bad
    | _, _ => .bad
  | .indexAddr t x i => match g x, g i with
    | .sl ks l, .int _ n => match tyOf cx t with
      | some L => match L.k with
        | .sl e => match tyOf cx e with
          | some Le => match Nat.beq Le.ks.length ks.length with
            | true => ⟨some (Ob (0 ≤ n ∧ n < l.length)), .ep ks l n.toNat 0, [], []⟩
            | false => .bad
          | none => .bad
        | _ => .bad
      | none => .bad
    | .ptr c off, .int _ n => match tyOf cx t with
      | some L => match L.k with
        | .arr len e => match tyOf cx e with
          | some Le => match cx.lit with
            | true => ⟨some (Ob (0 ≤ n ∧ n < len)), .ptr c (off + n.toNat * Le.ks.length), [], []⟩
            | false => ⟨some (Ob (0 ≤ n ∧ n < len)), .ptx c (off + n.toNat * Le.ks.length), [], []⟩
          | none => .bad
        | _ => .bad
      | none => .bad
    | .osl c ver, .int _ n => match tyOf cx t with
      | some L => match L.k with
        | .sl e => match tyOf cx e with
          | some Le => match lkO m c with
            | some (.row v _ ks l) => match Nat.beq v ver && Nat.beq Le.ks.length ks.length with
              | true => ⟨some (Ob (0 ≤ n ∧ n < l.length)), .rptr c ks.length n.toNat 0 ver, [], [c]⟩
              | false => .bad
            | some (.froz v ks l) => match Nat.beq v ver && Nat.beq Le.ks.length ks.length with
              | true => ⟨some (Ob (0 ≤ n ∧ n < l.length)), .ep ks l n.toNat 0, [], [c]⟩
              | false => .bad
            | _ => .bad
          | none => .bad
        | _ => .bad
      | none => .bad
    | _, _ => .bad
  | .field t x f => match g x with
    | .agg cs => match tyOf cx t with
      | some L => match L.k with
        | .struct fl => match fl[f]? with
          | some (o, ft) => match tyOf cx ft with
            | some Lf => match Nat.ble (o + Lf.ks.length) cs.length with
              | true => .val (ldAt Lf cs o)
              | false => .bad
            | none => .bad
          | none => .bad
        | _ => .bad
      | none => .bad
    | _ => .bad
  | .index t x i => match g x, g i with
    | .str l, .int _ n => match tyOf cx t with
      | some L => match L.k with
        | .str => ⟨some (Ob (0 ≤ n ∧ n < l.length)), .int .u8 (l.getD n.toNat 0).toNat, [], []⟩
        | _ => .bad
      | none => .bad
    | .agg cs, .int _ n => match tyOf cx t with
      | some L => match L.k with
        | .arr len e => match tyOf cx e with
          | some Le => match cx.lit with
            | true => match Nat.ble (n.toNat * Le.ks.length + Le.ks.length) cs.length with
              | true => ⟨some (Ob (0 ≤ n ∧ n < len)), ldAt Le cs (n.toNat * Le.ks.length), [], []⟩
              | false => .bad
            | false => ⟨some (Ob (0 ≤ n ∧ n < len ∧ n.toNat * Le.ks.length + Le.ks.length ≤ cs.length ∧ ksOk Le.ks fun j => cs.getD (n.toNat * Le.ks.length + j) .any)), ldBy Le (fun j => cs.getD (n.toNat * Le.ks.length + j) .any), [], []⟩
          | none => .bad
        | _ => .bad
      | none => .bad
    | _, _ => .bad
  | .binOp op t x y _ => match g x, g y with
    | .int k a, .int k' b => match decide (k = k') || isSh op with
      | true => ⟨arOb op b, ar op k a b, [], []⟩
      | false => .bad
    | .str a, .str b => match op with
      | .add => ⟨some (Ob (a.length + b.length ≤ 9223372036854775807)), .str (a ++ b), [], []⟩
      | .eql => .val (.bool (decide (a = b)))
      | .neq => .val (.bool (!decide (a = b)))
      | .lss => .val (.bool (Op.bytesLess a b))
      | .leq => .val (.bool (Op.bytesLess a b || decide (a = b)))
      | .gtr => .val (.bool (!(Op.bytesLess a b || decide (a = b))))
      | .geq => .val (.bool (!Op.bytesLess a b))
      | _ => .bad
    | .flt a, .flt b => fltBin op a b
    | .cpx a b, .cpx c d => cpxBin op a b c d
    | a, b => match tyOf cx t with
      | some L => match L.k with
        | .bool => match op, eqV a b with
          | .eql, some r => .val (.bool r)
          | .neq, some r => .val (.bool (!r))
          | _, _ => .bad
        | .struct _ => match L.eq, op, a, b with
          | true, .eql, .agg x, .agg y => match eqVs L.ks x y with
            | some r => .val (.bool r)
            | none => .bad
          | true, .neq, .agg x, .agg y => match eqVs L.ks x y with
            | some r => .val (.bool (!r))
            | none => .bad
          | _, _, _, _ => .bad
        | .ptr _ => ptrCmp op (isNilP a) b
        | .sl _ => nilCmp m op a b
        | _ => .bad
      | none => .bad
  | .unOp op _ x => match op, g x with
    | .not, .tt => .val .ff
    | .not, .ff => .val .tt
    | .not, .bool b => .val (.bool (!b))
    | .neg, .int k n => .val (.int k (k.wrap (0 - n)))
    | .neg, .flt b => .val (.flt (fN b))
    | .neg, .cpx a b => .val (.cpx (fN a) (fN b))
    | _, _ => .bad
  | .convert s d x => convOf cx m s d (g x)
  | .buildSlice t n ps => match dst, tyOf cx t with
    | some d, some L => match L.k with
      | .sl e => match tyOf cx e with
        | some Le =>
          let l0 := ps.toList.map fun (_, x) => g x
          let l := resolveL m l0
          match lkO m (cx.off + d), kBsL Le.ks l, Nat.beq n l.length && Nat.ble (n * Le.ks.length) 16777216 && Nat.blt 0 Le.ks.length, (ps.toList.zipIdx.all fun (p, i) => Nat.beq p.1 i) with
          | none, true, true, true => ⟨none, .osl (cx.off + d) 0, (cx.off + d, .row 0 e Le.ks l) :: freezes m (namesL l0), (cx.off + d) :: namesL l0⟩
          | _, _, _, _ => .bad
        | none => .bad
      | _ => .bad
    | _, _ => .bad
  | .nilCheck x => match g x with
    | .ptr c off => .val (.ptr c off)
    | .ep ks l i off => .val (.ep ks l i off)
    | .oep b ks l i off => ⟨some (Ob (b = true)), .ep ks l i off, [], []⟩
    | _ => .bad
  | .makeFunc fn first caps => match fn, first.toList, oneL m (caps.toList.map g) with
    | .func f, [], true => ⟨none, .fn f (caps.toList.map g), [], namesL (caps.toList.map g)⟩
    | _, _, _ => .bad
  | .makeSlice t len cap => match dst, tyOf cx t, g len, g cap with
    | some d, some L, .int _ n, .int _ n' => match L.k with
      | .sl e => match tyOf cx e with
        | some Le => match lkO m (cx.off + d), Nat.blt 0 Le.ks.length && kBs Le.ks Le.zero with
          | none, true => match isZ len with
            | true => ⟨some (Ob (0 ≤ n' ∧ n' * Le.bytes ≤ 1099511627776 ∧ n' ≤ 1099511627776)), .osl (cx.off + d) 0, [(cx.off + d, .row 0 e Le.ks [])], [cx.off + d]⟩
            | false => ⟨some (Ob (n = n' ∧ 0 ≤ n ∧ n * Le.bytes ≤ 1099511627776 ∧ n ≤ 1099511627776)), .osl (cx.off + d) 0, [(cx.off + d, .row 0 e Le.ks (List.replicate n.toNat (elOf Le.zero)))], [cx.off + d]⟩
          | _, _ => .bad
        | none => .bad
      | _ => .bad
    | _, _, _, _ => .bad
  | .extract x i => match g x with
    | .tup vs => match vs[i]? with
      | some v => .val v
      | none => .bad
    | _ => .bad
  | .slice t x lo hi none => match tyOf cx t with
    | some L => match L.k, g x with
      | .str, .str l =>
        match lo.map g, hi.map g with
        | none, none => .val (.str l)
        | some (.int _ a), none => ⟨some (Ob (0 ≤ a ∧ a ≤ l.length)), .str (l.drop a.toNat), [], []⟩
        | none, some (.int _ b) => ⟨some (Ob (0 ≤ b ∧ b ≤ l.length)), .str (l.take b.toNat), [], []⟩
        | some (.int _ a), some (.int _ b) => ⟨some (Ob (0 ≤ a ∧ a ≤ b ∧ b ≤ l.length)), .str ((l.take b.toNat).drop a.toNat), [], []⟩
        | _, _ => .bad
      | .sl e, .sl ks l => match tyOf cx e with
        | some Le => slPart Le ks l [] (lo.map g) (hi.map g)
        | none => .bad
      | .sl e, .osl c ver => match tyOf cx e, lkO m c with
        | some Le, some (.row v e' ks l) => match Nat.beq v ver && Nat.beq Le.ks.length ks.length with
          | true => match lo.map g, hi.map g with
            | none, some (.int _ b) => match fullB cx.pl b l with
              | true => ⟨none, .osl c ver, [], [c]⟩
              | false => ⟨some (Ob (0 ≤ b ∧ b ≤ l.length)), .osl c (ver + 1), [(c, .row (ver + 1) e' ks (l.take b.toNat))], [c]⟩
            | some (.int _ a), none => ⟨some (Ob (0 ≤ a ∧ a ≤ l.length)), .otl c ks.length a.toNat ver, [], [c]⟩
            | _, _ => .bad
          | false => .bad
        | some Le, some (.froz v ks l) => match Nat.beq v ver with
          | true => slPart Le ks l [c] (lo.map g) (hi.map g)
          | false => .bad
        | _, _ => .bad
      | .sl e, .nilsl => match tyOf cx e, lo, hi.map g with
        | some _, none, some (.int _ b) => ⟨some (Ob (b = 0)), .nilsl, [], []⟩
        | _, _, _ => .bad
      | _, _ => .bad
    | none => .bad
  | .slice t x none (some hi) (some mx) => match tyOf cx t with
    | some L => match L.k with
      | .sl e => match tyOf cx e with
        | some Le => sl3Z (isZ hi && isZ mx) Le m (g x) (g hi) (g mx)
        | none => .bad
      | _ => .bad
    | none => .bad
  | .call c => match c.callee with
    | .value f => match g f with
      | .fn f caps => callOf cx m dst f ((c.args.toList.map g) ++ caps)
      | _ => .bad
    | .builtin b => match b with
      | .delete => delMap cx m c.argTypes.toList (c.args.toList.map g)
      | b => builtinOf cx m b c.argTypes.toList dst (c.args.toList.map g)
    | _ => .bad
  | .makeMap t none => mkMap cx m dst t
  | .lookup t x k ok => lookMap cx m t (g x) (g k) ok
  | .mapUpdate t x k v => putMap cx m t (g x) (g k) (g v)
  | .insert t x k v => putMap cx m t (g x) (g k) (g v)
  | .mapEntry t x k => entMap cx m t (g x) (g k)
  | .entryStore _ x st v => stoMap m (g x) (g st) (g v)
  | .range t x => rngMap cx m dst t (g x)
  | .entry x => itMap m (g x)
  | _ => .bad

def opx (cx : Cx) (m : List (Nat × Chunk)) (g : Operand → SV) (o : Oper) : Eff := opE cx m g o.dst o.op

def upd (s : St) (d : Option Nat) (v : SV) (ch : List (Nat × Chunk)) : St :=
  ⟨match d with
    | some d => (d, v) :: s.tm
    | none => s.tm, ch ++ s.mem⟩

def brP (b : Bool) (p q : Prop) : Prop := (b = true → p) ∧ (b = false → q)

def obA (o : Option Prop) (p : Prop) : Prop :=
  match o with
  | none => p
  | some q => q ∧ p

/-- Does the outcome of operation i decide whether others are carried out? -/
def isG : List Oper → Nat → Bool
  | [], _ => false
  | o :: r, i => match o.guard with
    | some (j, _) => match Nat.beq j i with
      | true => true
      | false => isG r i
    | none => isG r i

/-- Is an operation carried out? none: it can't be told. -/
def wantB (all : List Oper) (tm : List (Nat × SV)) (o : Oper) : Option Bool :=
  match o.guard with
  | none => some true
  | some (j, b) => match all[j]? with
    | some oj => match oj.dst with
      | some d => match lk .any tm d, b with
        | .tt, true => some true
        | .ff, false => some true
        | .tt, false => some false
        | .ff, true => some false
        | .und, _ => some false
        | _, _ => none
      | none => none
    | none => none

def dOk (cx : Cx) : Option Nat → Bool
  | some d => Nat.blt d cx.nt
  | none => true

/-- Where all is plain: what a test comes to is told at once. -/
def plV (pl : Bool) (v : SV) : SV :=
  match pl with
  | true => match v with
    | .bool b => match b with
      | true => .tt
      | false => .ff
    | v => v
  | false => v

mutual
/-- The same, written out. -/
def forceV : SV → (SV → Prop) → Prop
  | .agg cs, k => forceVs cs (fun cs => k (.agg cs))
  | .tup cs, k => forceVs cs (fun cs => k (.tup cs))
  | .fn f cs, k => forceVs cs (fun cs => k (.fn f cs))
  | .any, k => k .any
  | .und, k => k .und
  | .int q n, k => k (.int q n)
  | .bool b, k => k (.bool b)
  | .tt, k => k .tt
  | .ff, k => k .ff
  | .str l, k => k (.str l)
  | .flt b, k => k (.flt b)
  | .cpx x y, k => k (.cpx x y)
  | .ptr c off, k => k (.ptr c off)
  | .ptx c off, k => k (.ptx c off)
  | .rptr c sz i off ver, k => k (.rptr c sz i off ver)
  | .osl c ver, k => k (.osl c ver)
  | .sl ks l, k => k (.sl ks l)
  | .ep ks l i off, k => k (.ep ks l i off)
  | .oep b ks l i off, k => k (.oep b ks l i off)
  | .nilsl, k => k .nilsl
  | .nilp, k => k .nilp
  | .nb l, k => k (.nb l)
  | .fsl ks l, k => k (.fsl ks l)
  | .lp t cs, k => k (.lp t cs)
  | .own e ks l, k => k (.own e ks l)
  | .mpp c, k => k (.mpp c)
  | .itp c, k => k (.itp c)
  | .otl c sz i ver, k => k (.otl c sz i ver)
def forceVs : List SV → (List SV → Prop) → Prop
  | [], k => k []
  | v :: r, k => forceV v (fun v => forceVs r (fun r => k (v :: r)))
end
def forceT : List (Nat × SV) → (List (Nat × SV) → Prop) → Prop
  | [], k => k []
  | (t, v) :: r, k => forceV v (fun v => forceT r (fun r => k ((t, v) :: r)))
def forceC : Chunk → (Chunk → Prop) → Prop
  | .box t cs, k => forceVs cs (fun cs => k (.box t cs))
  | .row v e ks l, k => k (.row v e ks l)
  | .froz v ks l, k => k (.froz v ks l)
  | .gh v, k => forceV v (fun v => k (.gh v))
  | .mp t a b l ck, k => k (.mp t a b l ck)
  | .it d a sn b, k => k (.it d a sn b)
def forceM : List (Nat × Chunk) → (List (Nat × Chunk) → Prop) → Prop
  | [], k => k []
  | (t, c) :: r, k => forceC c (fun c => forceM r (fun r => k ((t, c) :: r)))
def forceD (s : St) (k : St → Prop) : Prop := forceT s.tm (fun t => forceM s.mem (fun m => k ⟨t, m⟩))
mutual
theorem forceV_eq : ∀ (v : SV) (k : SV → Prop), forceV v k = k v
  | .agg cs, k => by simp only [forceV]; rw [forceVs_eq cs]
  | .tup cs, k => by simp only [forceV]; rw [forceVs_eq cs]
  | .fn f cs, k => by simp only [forceV]; rw [forceVs_eq cs]
  | .any, _ => rfl
  | .und, _ => rfl
  | .int _ _, _ => rfl
  | .bool _, _ => rfl
  | .tt, _ => rfl
  | .ff, _ => rfl
  | .str _, _ => rfl
  | .flt _, _ => rfl
  | .cpx _ _, _ => rfl
  | .ptr _ _, _ => rfl
  | .ptx _ _, _ => rfl
  | .rptr _ _ _ _ _, _ => rfl
  | .osl _ _, _ => rfl
  | .sl _ _, _ => rfl
  | .ep _ _ _ _, _ => rfl
  | .oep _ _ _ _ _, _ => rfl
  | .nilsl, _ => rfl
  | .nilp, _ => rfl
  | .nb _, _ => rfl
  | .fsl _ _, _ => rfl
  | .lp _ _, _ => rfl
  | .own _ _ _, _ => rfl
  | .mpp _, _ => rfl
  | .itp _, _ => rfl
  | .otl _ _ _ _, _ => rfl
theorem forceVs_eq : ∀ (l : List SV) (k : List SV → Prop), forceVs l k = k l
  | [], _ => rfl
  | v :: r, k => by simp only [forceVs]; rw [forceV_eq v, forceVs_eq r]
end
theorem forceT_eq : ∀ (l : List (Nat × SV)) (k : List (Nat × SV) → Prop), forceT l k = k l
  | [], _ => rfl
  | (t, v) :: r, k => by simp only [forceT]; rw [forceV_eq v, forceT_eq r]
theorem forceC_eq : ∀ (c : Chunk) (k : Chunk → Prop), forceC c k = k c
  | .box t cs, k => by simp only [forceC]; rw [forceVs_eq cs]
  | .row _ _ _ _, _ => rfl
  | .froz _ _ _, _ => rfl
  | .gh v, k => by simp only [forceC]; rw [forceV_eq v]
  | .mp _ _ _ _ _, _ => rfl
  | .it _ _ _ _, _ => rfl
theorem forceM_eq : ∀ (l : List (Nat × Chunk)) (k : List (Nat × Chunk) → Prop), forceM l k = k l
  | [], _ => rfl
  | (t, c) :: r, k => by simp only [forceM]; rw [forceC_eq c, forceM_eq r]
theorem forceD_eq (s : St) (k : St → Prop) : forceD s k = k s := by unfold forceD; rw [forceT_eq, forceM_eq]

/-- What an operation writes, written out: boxes, and slices that are. -/
def forceB (op : Op) (ch : List (Nat × Chunk)) (k : List (Nat × Chunk) → Prop) : Prop :=
  match ch with
  | (c, .box t cs) :: r => forceVs cs (fun cs => k ((c, .box t cs) :: r))
  | (c, .row v e ks l) :: r => match op with
    | .buildSlice _ _ _ => forceVs l (fun l => k ((c, .row v e ks l) :: r))
    | _ => k ((c, .row v e ks l) :: r)
  | ch => k ch
theorem forceB_eq (op : Op) (ch : List (Nat × Chunk)) (k : List (Nat × Chunk) → Prop) : forceB op ch k = k ch := by
  unfold forceB
  split
  · rw [forceVs_eq]
  · split
    · rw [forceVs_eq]
    · rfl
  · rfl

/-- A region's operations, one by one, in the order of the text; what each has come to is kept. -/
def wpR (cx : Cx) (all : List Oper) (Q : St → List (Nat × Eff) → Prop) : List Oper → Nat → St → List (Nat × Eff) → Prop
  | [], _, s, fs => Q s fs
  | o :: r, i, s, fs =>
    match dOk cx o.dst, wantB all s.tm o with
    | true, some true =>
      match opx cx s.mem (ev s.tm) o with
      | ⟨ob, v, ch, rd⟩ =>
        obA ob (forceV v fun v => forceB o.op ch fun ch => match plV cx.pl v, isG all i with
          | .bool b, true => brP b (forceD (upd s o.dst .tt ch) fun s => wpR cx all Q r (i + 1) s ((i, ⟨ob, .tt, ch, rd⟩) :: fs)) (forceD (upd s o.dst .ff ch) fun s => wpR cx all Q r (i + 1) s ((i, ⟨ob, .ff, ch, rd⟩) :: fs))
          | v, _ => wpR cx all Q r (i + 1) (upd s o.dst v ch) ((i, ⟨ob, v, ch, rd⟩) :: fs))
    | true, some false => wpR cx all Q r (i + 1) (upd s o.dst .und []) ((i, ⟨none, .und, [], []⟩) :: fs)
    | _, _ => False
end Go.Rx

/- The framework, part 2: the symbolic executor over code: regions, branches, loops with what holds at their heads, scopes with labels. -/
namespace Go.Rx

inductive Ex where
  | normal
  | ret
  | exit (id : Nat)
  | goto (l : Nat)

/-- What holds at a loop's head, or at a label. -/
structure Ann where
  ι : Type
  F : ι → St
  p : ι → Prop
  μ : ι → Nat
  kt : List Nat
  km : List Nat
  nc : List (Nat × Nat × Nat × List CK)
  sub : ι → Nat → Option Ann

def befStep (acc : List Nat) (s : Nat) (e : Edge) : Nat :=
  match Region.binds .any e with
  | true => s ||| 2 ^ e.on ||| acc.getD e.on 0
  | false => s

/-- All operations that must be behind this one, as a number's bits. -/
def befN : List Oper → List Nat → List Nat
  | [], acc => acc.reverse
  | o :: r, acc => befN r (o.after.toList.foldl (befStep acc.reverse) 0 :: acc)

def looks (all : List Oper) (o : Oper) : List Nat :=
  (o.op.operands.toList.filterMap fun | .tmp t => some t | _ => none) ++
  (match o.guard with
   | some (g, _) => match all[g]? with
     | some og => og.dst.toList
     | none => []
   | none => [])

def disj (a b : List Nat) : Bool := a.all fun x => b.all fun y => !Nat.beq x y

/-- Two operations of which neither waits for the other one have nothing to do with each other. -/
def apartE (all : List Oper) (oi oj : Oper) (ei ej : Eff) : Bool :=
  disj oi.dst.toList (oj.dst.toList ++ looks all oj) && disj oj.dst.toList (looks all oi) &&
  disj (ei.ch.map (·.1)) (ej.ch.map (·.1) ++ ej.rd) && disj (ej.ch.map (·.1)) ei.rd

def noSel : Op → Bool
  | .select _ _ => false
  | _ => true

def edgesOk (o : Oper) (i : Nat) : Bool := o.after.toList.all fun e => !Region.binds .any e || Nat.blt e.on i

/-- May a region's operations be carried out in whatever order they may? -/
def indep (ops : List Oper) (fs : List (Nat × Eff)) : Bool :=
  let b := befN ops []
  ops.zipIdx.all fun (oj, j) => noSel oj.op && edgesOk oj j &&
    (ops.take j).zipIdx.all fun (oi, i) => (b.getD j 0).testBit i || (match lkO fs i, lkO fs j with
      | some ei, some ej => apartE ops oi oj ei ej
      | _, _ => false)

mutual
/-- A value at a loop's head: the versions are counted anew. -/
def normV (m : List (Nat × Chunk)) (km : List Nat) : SV → SV
  | .osl c ver => match km.contains c, lkO m c with
    | true, some (.row v _ _ _) => match Nat.beq v ver with
      | true => .osl c 0
      | false => .any
    | true, some (.froz v _ _) => match Nat.beq v ver with
      | true => .osl c 0
      | false => .any
    | false, some (.froz v ks l) => match Nat.beq v ver with
      | true => .sl ks l
      | false => .any
    | _, _ => .any
  | .ptr c off => match km.contains c with
    | true => .ptr c off
    | false => .any
  | .ptx c off => match km.contains c with
    | true => .ptx c off
    | false => .any
  | .mpp c => match km.contains c with
    | true => .mpp c
    | false => .any
  | .itp c => match km.contains c, lkO m c with
    | true, some (.it d _ _ _) => match km.contains d with
      | true => .itp c
      | false => .any
    | _, _ => .any
  | .rptr _ _ _ _ _ => .any
  | .otl _ _ _ _ => .any
  | .agg cs => .agg (normL m km cs)
  | .tup cs => .tup (normL m km cs)
  | .fn f cs => .fn f (normL m km cs)
  | v => v
def normL (m : List (Nat × Chunk)) (km : List Nat) : List SV → List SV
  | [] => []
  | v :: r => normV m km v :: normL m km r
end

def normC (m : List (Nat × Chunk)) (km : List Nat) : Chunk → Chunk
  | .box t cs => .box t (normL m km cs)
  | .row _ e ks l => .row 0 e ks l
  | .froz _ ks l => .froz 0 ks l
  | .gh v => .gh (normV m km v)
  | .mp t a b l ck => .mp t a b l ck
  | .it d a sn b => match km.contains d with
    | true => .it d a sn b
    | false => .gh .any

/-- A nil slice in a cell of a box, as one of the function's own. -/
def nilBox (b o c e : Nat) (ks : List CK) (s : St) : St :=
  match lkO s.mem b, lkO s.mem c with
  | some (.box t cs), none => match cs[o]? with
    | some .nilsl => ⟨s.tm, (b, .box t (cs.set o (.osl c 0))) :: (c, .row 0 e ks []) :: s.mem⟩
    | _ => s
  | _, _ => s
/-- A slice of the function's own is written no more. -/
def frzAt (c : Nat) (s : St) : St :=
  match lkO s.mem c with
  | some (.row v _ ks l) => ⟨s.tm, (c, .froz v ks l) :: s.mem⟩
  | _ => s
/-- Another map of one's own under a key: what named the old one names nothing. -/
def renV (a b : Nat) (v : SV) : SV :=
  match v with
  | .mpp c => match Nat.beq c b with
    | true => .mpp a
    | false => match Nat.beq c a with
      | true => .any
      | false => .mpp c
  | .itp _ => .any
  | .agg cs => match closedL cs with
    | true => .agg cs
    | false => .any
  | .tup cs => match closedL cs with
    | true => .tup cs
    | false => .any
  | .fn f cs => match closedL cs with
    | true => .fn f cs
    | false => .any
  | v => v
def renC (a b : Nat) : Chunk → Chunk
  | .box t cs => .box t (cs.map (renV a b))
  | .gh v => .gh (renV a b v)
  | .it _ _ _ _ => .gh .any
  | ch => ch
def renM (a b : Nat) : List (Nat × Chunk) → List (Nat × Chunk)
  | [] => []
  | (c, ch) :: r => match Nat.beq c a || Nat.beq c b with
    | true => renM a b r
    | false => (c, renC a b ch) :: renM a b r
def renT (a b : Nat) : List (Nat × SV) → List (Nat × SV)
  | [] => []
  | (t, v) :: r => (t, renV a b v) :: renT a b r
/-- The map in slot t comes under the key a. -/
def renMp (a t : Nat) (s : St) : St :=
  match lk .any s.tm t with
  | .mpp b => match Nat.beq a b || roK b with
    | true => s
    | false => match lkO s.mem a, lkO s.mem b with
      | some (.mp _ _ _ _ _), some (.mp ty k e l ck) => ⟨renT a b s.tm, (a, .mp ty k e l ck) :: renM a b s.mem⟩
      | _, _ => s
  | _ => s
/-- The nil slices that a loop appends to, as slices of the function's own. Those in cells of boxes: 100000 + 100 times the box and the cell. 99999: a slice of the function's own is written no more. -/
def nilConv : List (Nat × Nat × Nat × List CK) → St → St
  | [], s => s
  | (t, c, e, ks) :: r, s => nilConv r (match Nat.blt t 100000 with
    | true => match Nat.beq t 99999 with
      | true => frzAt c s
      | false => match Nat.beq t 99998 with
       | true => renMp c e s
       | false => match lk .any s.tm t, lkO s.mem c with
        | .nilsl, none => ⟨(t, .osl c 0) :: s.tm, (c, .row 0 e ks []) :: s.mem⟩
        | _, _ => s
    | false => nilBox ((t - 100000) / 100) ((t - 100000) % 100) c e ks s)

def keepM (m : List (Nat × Chunk)) (km : List Nat) : List Nat → List (Nat × Chunk)
  | [] => []
  | c :: r => match lkO m c with
    | some ch => (c, normC m km ch) :: keepM m km r
    | none => keepM m km r

def keepT (s : St) (km : List Nat) : List Nat → List (Nat × SV)
  | [] => []
  | t :: r => (t, normV s.mem km (lk .any s.tm t)) :: keepT s km r

def weaken (A : Ann) (s : St) : St :=
  match nilConv A.nc s with
  | s => ⟨keepT s A.km A.kt, keepM s.mem A.km A.km⟩

/-! Equality of states that are written out, piece by piece. -/
def andL : List Prop → Prop
  | [] => True
  | p :: r => p ∧ andL r

def eqS : SV → SV → List Prop
  | .int k a, .int k' b => match decide (k = k') with
    | true => [a = b]
    | false => [False]
  | .bool a, .bool b => [a = b]
  | .tt, .bool b => [b = true]
  | .ff, .bool b => [b = false]
  | .str a, .str b => [a = b]
  | .sl ks a, .sl ks' b => match cksEq ks ks' with
    | true => [a = b]
    | false => [False]
  | .nilsl, .sl _ b => [b = []]
  | a, b => [a = b]
def eqSs : List SV → List SV → List Prop
  | [], [] => []
  | a :: r, b :: s => eqS a b ++ eqSs r s
  | _, _ => [False]
def eqTop : SV → SV → List Prop
  | .agg a, .agg b => eqSs a b
  | .osl c v, .osl c' v' => match Nat.beq c c', Nat.beq v v' with
    | true, true => []
    | _, _ => [False]
  | .ptr c v, .ptr c' v' => match Nat.beq c c', Nat.beq v v' with
    | true, true => []
    | _, _ => [False]
  | .any, .any => []
  | .nilsl, .nilsl => []
  | .tt, .tt => []
  | .ff, .ff => []
  | .nilp, .nilp => []
  | .nilp, .oep b _ _ _ _ => [b = false]
  | .ep ks l i o, .oep b ks' l' i' o' => match cksEq ks ks' with
    | true => [b = true, l = l', i = i', o = o']
    | false => [False]
  | .oep b ks l i o, .oep b' ks' l' i' o' => match cksEq ks ks' with
    | true => [b = b', b' = true → (l = l' ∧ i = i' ∧ o = o')]
    | false => [False]
  | _, .any => []
  | a, b => eqS a b
def eqC : Chunk → Chunk → List Prop
  | .box t cs, .box t' cs' => match Nat.beq t t' with
    | true => (cs.zip cs').foldr (fun (a, b) r => eqTop a b ++ r) (match Nat.beq cs.length cs'.length with
      | true => []
      | false => [False])
    | false => [False]
  | .row v e ks l, .row v' e' ks' l' => match Nat.beq v v', Nat.beq e e', cksEq ks ks' with
    | true, true, true => [l = l']
    | _, _, _ => [False]
  | .froz v ks l, .froz v' ks' l' => match Nat.beq v v', cksEq ks ks' with
    | true, true => [l = l']
    | _, _ => [False]
  | .gh a, .gh b => eqTop a b
  | .mp t a b l ck, .mp t' a' b' l' ck' => match Nat.beq t t', cksEq [a, b] [a', b'] with
    | true, true => [l = l', ck = ck']
    | _, _ => [False]
  | .it d a sn b, .it d' a' sn' b' => match Nat.beq d d' with
    | true => [a = a', sn = sn', b = b']
    | _ => [False]
  | _, _ => [False]
def eqTm : List (Nat × SV) → List (Nat × SV) → List Prop
  | [], [] => []
  | (t, a) :: r, (t', b) :: s => match Nat.beq t t' with
    | true => eqTop a b ++ eqTm r s
    | false => [False]
  | _, _ => [False]
def eqMem : List (Nat × Chunk) → List (Nat × Chunk) → List Prop
  | [], [] => []
  | (t, a) :: r, (t', b) :: s => match Nat.beq t t' with
    | true => eqC a b ++ eqMem r s
    | false => [False]
  | _, _ => [False]
def eqSt (s s' : St) : List Prop := eqTm s.tm s'.tm ++ eqMem s.mem s'.mem

def atHead (A : Ann) (s : St) (q : A.ι → Prop) : Prop := forceD s fun s => forceD (weaken A s) fun s => ∃ x : A.ι, andL (eqSt s (A.F x) ++ [A.p x, q x])

def atHeadO (A : Option Ann) (s : St) (q : Nat → Prop) : Prop :=
  match A with
  | some A => atHead A s (fun y => q (A.μ y))
  | none => False

/-- A loop that is gone through at most so often: what its test comes to must be plain. -/
def unroll (k : Nat) (kt km : List Nat) : Ann := ⟨Unit, fun _ => ⟨[], []⟩, fun _ => False, fun _ => 0, kt, km, List.replicate k (0, 0, 0, []), fun _ _ => none⟩
/-- Is a key among these? -/
def inR (g n k : Nat) : Bool := Nat.ble g k && Nat.blt k (g + n)
/-- The same, so that the list is written out ahead of what follows. -/
def dropK (g n : Nat) : List (Nat × Chunk) → (List (Nat × Chunk) → Prop) → Prop
  | [], k => k []
  | (x, c) :: r, k => match inR g n x with
    | true => dropK g n r k
    | false => dropK g n r (fun m => k ((x, c) :: m))
def appK (b : List (Nat × Chunk)) : List (Nat × Chunk) → (List (Nat × Chunk) → Prop) → Prop
  | [], k => dropK 0 0 b k
  | x :: r, k => appK b r (fun m => k (x :: m))
def forceL : List (Nat × SV) → (List (Nat × SV) → Prop) → Prop
  | [], k => k []
  | (x, c) :: r, k => forceL r (fun m => k ((x, c) :: m))
def forceS (s : St) (k : St → Prop) : Prop := forceL s.tm (fun t => dropK 0 0 s.mem (fun m => k ⟨t, m⟩))

def memN (n : Nat) : List Nat → Bool
  | [] => false
  | k :: r => match Nat.beq k n with
    | true => true
    | false => memN n r
mutual
/-- The names of memory in a value. -/
def refsV : SV → List Nat
  | .ptr c _ => [c]
  | .ptx c _ => [c]
  | .rptr c _ _ _ _ => [c]
  | .osl c _ => [c]
  | .otl c _ _ _ => [c]
  | .mpp c => [c]
  | .itp c => [c]
  | .agg cs => refsL cs
  | .tup cs => refsL cs
  | .fn _ cs => refsL cs
  | _ => []
def refsL : List SV → List Nat
  | [] => []
  | v :: r => refsV v ++ refsL r
end
def reachM (m : List (Nat × Chunk)) : Nat → List Nat → List Nat → List Nat
  | 0, _, acc => acc
  | _, [], acc => acc
  | n + 1, c :: r, acc => match memN c acc with
    | true => reachM m n r acc
    | false => match lkO m c with
      | some (.box _ cs) => reachM m n (refsL cs ++ r) (c :: acc)
      | some (.gh v) => reachM m n (refsV v ++ r) (c :: acc)
      | some (.it d _ _ _) => reachM m n (d :: r) (c :: acc)
      | some _ => reachM m n r (c :: acc)
      | none => reachM m n r acc
def ghosts : List (Nat × Chunk) → List Nat
  | [] => []
  | (k, .gh _) :: r => k :: ghosts r
  | _ :: r => ghosts r
def refsT (tm : List (Nat × SV)) : List Nat → List Nat
  | [] => []
  | t :: r => refsV (lk .any tm t) ++ refsT tm r
def slotsOf : List (Nat × SV) → List Nat → List Nat
  | [], acc => acc
  | (t, _) :: r, acc => match memN t acc with
    | true => slotsOf r acc
    | false => slotsOf r (t :: acc)
/-- Where all is plain: the slots that a loop finds when it is come to; these alone, and what can be reached from them, are kept. -/
def slots0 (pl : Bool) (s : St) : List Nat :=
  match pl with
  | true => slotsOf s.tm []
  | false => []
/-- What it keeps from one time to the next; everything, if no slot is named. -/
def keepS (A : Ann) (ks : List Nat) (s : St) : St :=
  match A.kt with
  | [] => match ks with
    | [] => s
    | _ => match reachM s.mem 100000 (refsT s.tm ks ++ ghosts s.mem) [] with
      | km => ⟨keepT s km ks, keepM s.mem km km⟩
  | _ => ⟨keepT s A.km A.kt, keepM s.mem A.km A.km⟩
def unrollL (A : Ann) (ks : List Nat) (f : St → (Ex → St → Prop) → Prop) (Q : Ex → St → Prop) : Nat → St → Prop
  | 0, _ => False
  | k + 1, s => f s (fun e s => match e with
    | .normal => forceS (keepS A ks s) (fun s => unrollL A ks f Q k s)
    | e => Q e s)
def exitOf : Code → Option Nat
  | .exit id => some id
  | _ => none
def plainTest (An : Nat → Option Ann) (b : Code) : Bool :=
  match exitOf b with
  | some id => match An (3000 + id) with
    | some _ => true
    | none => false
  | none => false

/-! ### Calls that are gone through in place -/
/-- An iterator's next step: whichever entry has not been seen, or the end. -/
def nextT : Tr := fun _ as m K => match as with
  | [.itp c] => match lkO m c with
    | some (.it d since sn last) => match lkO m d, roK c with
      | some (.mp _ kk vk l ck), false => Ob (since = ck ∧ last = ck) ∧
        (∀ j, j < l.length → memN (mpS l j) sn = false → mpAt l (mpS l j) = some (l.getD j .any) → K (.tup [.tt, coerce kk (elCell l j 0), coerce vk (elCell l j 1)]) ((c, .it d since (mpS l j :: sn) ck) :: m)) ∧
        ((∀ j, j < l.length → memN (mpS l j) sn = true) → K (.tup [.ff]) m)
      | _, _ => False
    | _ => False
  | _ => False
/-- The function that an operation calls, if it is gone through in place; its arguments. -/
def inlOf (cx : Cx) (g : Operand → SV) (o : Oper) : Option (Tr × List SV) :=
  match o.op with
  | .call c => match c.callee with
    | .value f => match g f with
      | .fn f caps => match lkO cx.inl f with
        | some T => some (T, (c.args.toList.map g) ++ caps)
        | none => none
      | _ => none
    | _ => none
  | .next it false => match g it with
    | .itp c => some (nextT, [.itp c])
    | _ => none
  | _ => none

/-- Where the keys begin under which the slots are kept while a call runs. -/
def goff (cx : Cx) (d : Option Nat) (id i : Nat) : Nat :=
  match d with
  | some d => (cx.off + d + 1) * 10000
  | none => (cx.off + (1000 + 20 * id + i) + 1) * 10000

def ghostR (g : Nat) (tm : List (Nat × SV)) : Nat → List (Nat × Chunk)
  | 0 => []
  | t + 1 => match lkO tm t with
    | some v => (g + t, .gh v) :: ghostR g tm t
    | none => ghostR g tm t

def noR (g n : Nat) : List (Nat × Chunk) → Bool
  | [] => true
  | (k, _) :: r => match inR g n k with
    | true => false
    | false => noR g n r
def dropR (g n : Nat) : List (Nat × Chunk) → List (Nat × Chunk)
  | [] => []
  | (k, c) :: r => match inR g n k with
    | true => dropR g n r
    | false => (k, c) :: dropR g n r
def restT (g : Nat) (m : List (Nat × Chunk)) : Nat → Option (List (Nat × SV))
  | 0 => some []
  | t + 1 => match restT g m t with
    | some tm => match lkO m (g + t) with
      | some (.gh v) => some ((t, v) :: tm)
      | none => some tm
      | _ => none
    | none => none
def putT (d : Option Nat) (v : SV) (tm : List (Nat × SV)) : List (Nat × SV) :=
  match d with
  | some d => (d, v) :: tm
  | none => tm

/-- Behind a call that was gone through in place. -/
def behind (g n : Nat) (d : Option Nat) (v : SV) (m : List (Nat × Chunk)) (K : St → Prop) : Prop :=
  forceM m fun m => match restT g m n with
  | some tm => dropK g n m (fun m => K ⟨putT d v tm, m⟩)
  | none => False

def inlAt (n : Nat) (s : St) (d : Option Nat) (T : Tr) (as : List SV) (g : Nat) (K : St → Prop) : Prop :=
  forceD s fun s => match noR g n s.mem with
  | true => appK s.mem (ghostR g s.tm n) (fun m0 => T (g + 1000) as m0 (fun v m => behind g n d v m K))
  | false => False

/-- The operations of a region, in the order of the text. -/
def wpRI (cx : Cx) (id : Nat) (all : List Oper) (K : St → Prop) : List Oper → Nat → St → Prop
  | [], _, s => K s
  | o :: r, i, s => match inlOf cx (ev s.tm) o with
    | some (T, as) => match dOk cx o.dst, wantB all s.tm o with
      | true, some true => inlAt cx.nt s o.dst T as (goff cx o.dst id i) (fun s => wpRI cx id all K r (i + 1) s)
      | true, some false => wpRI cx id all K r (i + 1) (upd s o.dst .und [])
      | _, _ => False
    | none => wpR cx all (fun s _ => wpRI cx id all K r (i + 1) s) [o] i s []

/-! ### .. in a region that draws its order: such a call parts it -/
def pairB (all : List Oper) (b : List Nat) (fs : List (Nat × Eff)) (i j : Nat) : Bool :=
  (b.getD j 0).testBit i || (match all[i]?, all[j]?, lkO fs i, lkO fs j with
    | some oi, some oj, some ei, some ej => apartE all oi oj ei ej
    | _, _, _, _ => false)
/-- May a part's operations be carried out in whatever order they may? -/
def indS (all : List Oper) (b : List Nat) (lo n : Nat) (fs : List (Nat × Eff)) : Bool :=
  (List.range n).all fun j => (List.range j).all fun i => pairB all b fs (lo + i) (lo + j)
/-- All of the part stand ahead of this one, and all behind it wait for it. -/
def barB (b : List Nat) (lo c n : Nat) : Bool :=
  ((List.range (c - lo)).all fun i => (b.getD c 0).testBit (lo + i)) && (List.range n).all fun j => Nat.ble j c || (b.getD j 0).testBit c
def edgB (all : List Oper) : Bool := all.zipIdx.all fun (o, j) => noSel o.op && edgesOk o j

/-! .. and operations that neither stand ahead of it nor wait for it: they read no memory of the function's own, and write none. -/
/-- The operations behind place c that don't wait for it (false), or wait for it (true). -/
def pickZ (b : List Nat) (c : Nat) (q : Bool) : List Oper → Nat → List (Nat × Oper)
  | [], _ => []
  | o :: r, j => match (b.getD j 0).testBit c, q with
    | true, true => (j, o) :: pickZ b c q r (j + 1)
    | false, false => (j, o) :: pickZ b c q r (j + 1)
    | _, _ => pickZ b c q r (j + 1)
def wpZ (cx : Cx) (all : List Oper) (Q : St → List (Nat × Eff) → Prop) : List (Nat × Oper) → St → List (Nat × Eff) → Prop
  | [], s, fs => Q s fs
  | (j, o) :: r, s, fs => wpR cx all (fun s fs => wpZ cx all Q r s fs) [o] j s fs
def dstsZ : List (Nat × Oper) → List Nat
  | [] => []
  | (_, o) :: r => o.dst.toList ++ dstsZ r
def looksZ (all : List Oper) : List (Nat × Oper) → List Nat
  | [] => []
  | (_, o) :: r => looks all o ++ looksZ all r
def numsZ : List (Nat × Oper) → List Nat
  | [] => []
  | (j, _) :: r => j :: numsZ r
/-- None looks at what it, or one behind it, writes; none writes what one behind it writes. -/
def ordZ (all : List Oper) : List (Nat × Oper) → Bool
  | [] => true
  | (_, o) :: r => disj (looks all o) (o.dst.toList ++ dstsZ r) && disj o.dst.toList (dstsZ r) && ordZ all r
def clTs (tm : List (Nat × SV)) : List Nat → Bool
  | [] => true
  | t :: r => closed (lk .any tm t) && clTs tm r
def pureZ (zf : List (Nat × Oper)) (fs : List (Nat × Eff)) : Bool := zf.all fun x => match lkO fs x.1 with
  | some e => e.ch.isEmpty && e.rd.isEmpty
  | none => false
def pairsB (all : List Oper) (b : List Nat) (fs : List (Nat × Eff)) : List Nat → Bool
  | [] => true
  | i :: r => (r.all fun j => pairB all b fs i j) && pairsB all b fs r
/-- May these be carried out ahead of the call, or behind it? -/
def flB (all : List Oper) (b : List Nat) (lo c : Nat) (o : Oper) (zf : List (Nat × Oper)) (s : St) (fs : List (Nat × Eff)) : Bool :=
  ((List.range (c - lo)).all fun i => (b.getD c 0).testBit (lo + i)) && (pairsB all b fs (List.range' lo (c - lo) ++ numsZ zf) && (pureZ zf fs && (ordZ all zf &&
    (clTs s.tm (looksZ all zf ++ dstsZ zf) && (disj (dstsZ zf) (looks all o ++ o.dst.toList) && disj (looksZ all zf) o.dst.toList)))))
def maskT : List Nat → List (Nat × SV) → List (Nat × SV)
  | [], tm => tm
  | t :: r, tm => (t, .any) :: maskT r tm
def preT (tm0 : List (Nat × SV)) : List Nat → List (Nat × SV) → List (Nat × SV)
  | [], tm => tm
  | t :: r, tm => (t, lk .any tm0 t) :: preT tm0 r tm
def wpFl (cx : Cx) (id : Nat) (all : List Oper) (b : List Nat) (K : St → Prop) (o : Oper) (T : Tr) (as : List SV) (zf zb : List (Nat × Oper)) (lo c : Nat) (s : St) (fs : List (Nat × Eff)) : Prop :=
  wpZ cx all (fun s1 ffs => match flB all b lo c o zf s1 ffs with
    | true => inlAt cx.nt ⟨maskT (dstsZ zf) s.tm, s.mem⟩ o.dst T as (goff cx o.dst id c) (fun s' =>
      wpZ cx all (fun s3 gs => match pairsB all b gs (numsZ zf ++ numsZ zb) with
        | true => K s3
        | false => False) zb ⟨preT s1.tm (looksZ all zf ++ dstsZ zf) s'.tm, s'.mem⟩ ffs)
    | false => False) zf s fs
/-- A function that has a contract: where the order is drawn, that is taken. -/
def inlD (cx : Cx) (g : Operand → SV) (o : Oper) : Option (Tr × List SV) :=
  match o.op with
  | .call c => match c.callee with
    | .value f => match g f with
      | .fn f _ => match lkO cx.fn f with
        | some _ => none
        | none => inlOf cx g o
      | _ => inlOf cx g o
    | _ => inlOf cx g o
  | _ => inlOf cx g o

def wpRD (cx : Cx) (id : Nat) (all : List Oper) (b : List Nat) (K : St → Prop) : List Oper → Nat → Nat → St → List (Nat × Eff) → Prop
  | [], lo, i, s, fs => match indS all b lo (i - lo) fs with
    | true => K s
    | false => False
  | o :: r, lo, i, s, fs => match inlD cx (ev s.tm) o with
    | some (T, as) => match dOk cx o.dst, wantB all s.tm o with
      | true, some true => match indS all b lo (i - lo) fs, barB b lo i all.length with
        | true, true => inlAt cx.nt s o.dst T as (goff cx o.dst id i) (fun s => wpRD cx id all b K r (i + 1) (i + 1) s [])
        | true, false => wpFl cx id all b K o T as (pickZ b i false r (i + 1)) (pickZ b i true r (i + 1)) lo i s fs
        | _, _ => False
      | true, some false => wpRD cx id all b K r lo (i + 1) (upd s o.dst .und []) ((i, ⟨none, .und, [], []⟩) :: fs)
      | _, _ => False
    | none => wpR cx all (fun s fs => wpRD cx id all b K r lo (i + 1) s fs) [o] i s fs

/-- The number of a code's first region. -/
def firstR : Code → Option Nat
  | .region id _ _ => some id
  | .seq a _ => firstR a
  | .block _ c => firstR c
  | .loop c => firstR c
  | _ => none
/-- Where roads join: what holds ahead of a code, by its first region's number. -/
def joinA (An : Nat → Option Ann) (c : Code) : Option Ann :=
  match firstR c with
  | some k => An (4000 + k)
  | none => none

/-- What holds at heads within a loop, or behind a join: it may tell of the one around. -/
def subA (An S : Nat → Option Ann) : Nat → Option Ann := fun k => match S k with
  | some B => some B
  | none => An k

/-- Where all is plain: is there an element? -/
def plNe (pl : Bool) (l : List SV) : Bool :=
  match pl with
  | true => match l with
    | _ :: _ => true
    | [] => false
  | false => false

/-- The first place on the way through a row of codes where roads join. -/
def spineJ (An : Nat → Option Ann) : Code → Option (Nat × Ann)
  | .seq a b => match firstR a with
    | some k => match An (4000 + k) with
      | some A => some (k, A)
      | none => spineJ An b
    | none => spineJ An b
  | c => match firstR c with
    | some k => match An (4000 + k) with
      | some A => some (k, A)
      | none => none
    | none => none
def isR (k : Nat) (c : Code) : Bool :=
  match firstR c with
  | some j => Nat.beq j k
  | none => false
/-- The rest of a row of codes, from a region on. -/
def findT (k : Nat) : Code → Option Code
  | .seq _ b => match isR k b with
    | true => some b
    | false => findT k b
  | _ => none

mutual
/-- Code, from a state that is written out. 'bl': the block in which it is; 'An': what holds at the loops of blocks, at labels (1000 and on), and where roads join (4000 and on); 'J': a place at which roads join, that is come to, and what is asked there; 'sc': what is asked of a scope. -/
def wpJ (cx : Cx) (sc : Code → Nat → St → (Ex → St → Prop) → Prop) : Code → (Nat → Option Ann) → Option (Nat × (St → Prop)) → Nat → St → (Ex → St → Prop) → Prop
  | .skip, _, _, _, s, Q => Q .normal s
  | .label _, _, _, _, s, Q => Q .normal s
  | .region id ops draw, _, _, _, s, Q => match draw with
    | false => wpRI cx id ops.toList (fun s => Q .normal s) ops.toList 0 s
    | true => match edgB ops.toList with
      | true => wpRD cx id ops.toList (befN ops.toList []) (fun s => Q .normal s) ops.toList 0 0 s []
      | false => False
  | .seq a b, An, J, bl, s, Q => match J with
    | some (k, hk) => match isR k b with
      | true => wpJ cx sc a An none bl s (fun e s => match e with
        | .normal => hk s
        | e => Q e s)
      | false => wpJ cx sc a An none bl s (fun e s => match e with
        | .normal => forceD s fun s => wpJ cx sc b An (some (k, hk)) bl s Q
        | e => Q e s)
    | none => match spineJ An b with
      | some (k, A) => match isR k b with
        | true => wpJ cx sc a An none bl s (fun e s => match e with
            | .normal => atHead A s (fun _ => True)
            | e => Q e s) ∧ ∀ x : A.ι, A.p x → wpJ cx sc b (subA An (A.sub x)) none bl (A.F x) Q
        | false => wpJ cx sc a An none bl s (fun e s => match e with
            | .normal => forceD s fun s => wpJ cx sc b An (some (k, fun s => atHead A s (fun _ => True))) bl s Q
            | e => Q e s) ∧ ∀ x : A.ι, A.p x → wpAt cx sc b k (subA An (A.sub x)) bl (A.F x) Q
      | none => wpJ cx sc a An none bl s (fun e s => match e with
        | .normal => forceD s fun s => wpJ cx sc b An (some (999999999, fun _ => False)) bl s Q
        | e => Q e s)
  | .cond c a b, An, _, bl, s, Q => match ev s.tm c with
    | .tt => wpJ cx sc a An none bl s Q
    | .ff => wpJ cx sc b An none bl s Q
    | .bool x => match c with
      | .tmp t => match plainTest An b with
        | true => match x with
          | true => wpJ cx sc a An none bl ⟨(t, .tt) :: s.tm, s.mem⟩ Q
          | false => wpJ cx sc b An none bl ⟨(t, .ff) :: s.tm, s.mem⟩ Q
        | false => brP x (wpJ cx sc a An none bl ⟨(t, .tt) :: s.tm, s.mem⟩ Q) (wpJ cx sc b An none bl ⟨(t, .ff) :: s.tm, s.mem⟩ Q)
      | _ => False
    | .nb l => match c with
      | .tmp t => match plNe cx.pl l with
        | true => wpJ cx sc b An none bl ⟨(t, .ff) :: s.tm, s.mem⟩ Q
        | false => (l = [] → wpJ cx sc a An none bl ⟨(t, .tt) :: s.tm, s.mem⟩ Q) ∧ wpJ cx sc b An none bl ⟨(t, .ff) :: s.tm, s.mem⟩ Q
      | _ => False
    | _ => False
  | .block id c, An, _, _, s, Q => wpJ cx sc c An none id s (fun e s => match e with
    | .exit j => match Nat.beq j id with
      | true => Q .normal s
      | false => Q (.exit j) s
    | e => Q e s)
  | .loop c, An, _, bl, s, Q => match An bl with
    | some A => atHead A s (fun _ => True) ∧ ∀ x : A.ι, A.p x → wpJ cx sc c (subA An (A.sub x)) none bl (A.F x) (fun e s => match e with
      | .normal => atHead A s (fun y => A.μ y < A.μ x)
      | e => Q e s)
    | none => match An (3000 + bl) with
      | some A => unrollL A (slots0 cx.pl s) (wpJ cx sc c An none bl) Q A.nc.length s
      | none => False
  | .scope c, _, _, bl, s, Q => sc c bl s Q
  | .exit id, _, _, _, s, Q => Q (.exit id) s
  | .goto l, _, _, _, s, Q => Q (.goto l) s
  | .ret, _, _, _, s, Q => Q .ret s
  | _, _, _, _, _, _ => False
/-- The rest of it, from a region on. -/
def wpAt (cx : Cx) (sc : Code → Nat → St → (Ex → St → Prop) → Prop) : Code → Nat → (Nat → Option Ann) → Nat → St → (Ex → St → Prop) → Prop
  | .seq _ b, k, An, bl, s, Q => match isR k b with
    | true => wpJ cx sc b An none bl s Q
    | false => wpAt cx sc b k An bl s Q
  | _, _, _, _, _, _ => False
end
def wpC (cx : Cx) (An : Nat → Option Ann) (sc : Code → Nat → St → (Ex → St → Prop) → Prop) (c : Code) (bl : Nat) (s : St) (Q : Ex → St → Prop) : Prop := wpJ cx sc c An none bl s Q

def noSc : Code → Nat → St → (Ex → St → Prop) → Prop := fun _ _ _ _ => False

/-- A jump to a label: what holds there must hold. -/
def gotoQ (An : Nat → Option Ann) (labs : List Nat) (q : Nat → Prop) (Q : Ex → St → Prop) : Ex → St → Prop := fun e s =>
  match e with
  | .goto l => match labs.contains l with
    | true => atHeadO (An (1000 + l)) s q
    | false => False
  | e => Q e s

def passes (cx : Cx) (An : Nat → Option Ann) (labs : List Nat) (c : Code) (bl : Nat) (Q : Ex → St → Prop) : List Nat → Prop
  | [] => True
  | l :: r => (match An (1000 + l), findLabel c l with
    | some A, some rest => ∀ x : A.ι, A.p x → wpC cx An noSc rest bl (A.F x) (gotoQ An labs (fun n => n < A.μ x) Q)
    | _, _ => False) ∧ passes cx An labs c bl Q r

/-- A scope: from each label on, what holds there. -/
def scopeH (cx : Cx) (An : Nat → Option Ann) (labs : List Nat) : Code → Nat → St → (Ex → St → Prop) → Prop := fun c bl s Q =>
  wpC cx An noSc c bl s (gotoQ An labs (fun _ => True) Q) ∧ passes cx An labs c bl Q labs

def resOf (cx : Cx) (s : St) : ResultVar → SV
  | .tmp t => lk .any s.tm t
  | .cell a t => match lk .any s.tm a, tyOf cx t with
    | .ptr c off, some L => match lkO s.mem c with
      | some (.box _ cs) => match Nat.ble (off + L.ks.length) cs.length with
        | true => ldAt L cs off
        | false => .any
      | _ => .any
    | _, _ => .any

def resB (cx : Cx) (s : St) : ResultVar → Bool
  | .tmp _ => true
  | .cell a t => match lk .any s.tm a, tyOf cx t with
    | .ptr c off, some L => match lkO s.mem c with
      | some (.box _ cs) => Nat.ble (off + L.ks.length) cs.length
      | _ => false
    | _, _ => false
def resBs (cx : Cx) (s : St) : List ResultVar → Bool
  | [] => true
  | r :: rs => match resB cx s r with
    | true => resBs cx s rs
    | false => false

mutual
/-- A pointer to a box of the function's own, as one to memory that nobody writes any more. -/
def pinV (cx : Cx) (m : List (Nat × Chunk)) : SV → SV
  | .ptr c off => match lkO m c with
    | some (.box t cs) => match tyOf cx t with
      | some L => match Nat.beq off 0 && !(roK c), closedL cs, kBs L.ks cs with
        | true, true, true => .ep L.ks [.agg cs] 0 0
        | _, _, _ => .ptr c off
      | none => .ptr c off
    | _ => .ptr c off
  | .tup vs => .tup (pinL cx m vs)
  | v => v
def pinL (cx : Cx) (m : List (Nat × Chunk)) : List SV → List SV
  | [] => []
  | v :: r => pinV cx m v :: pinL cx m r
end

def pinR (cx : Cx) (m : List (Nat × Chunk)) (v : SV) : SV :=
  match closed (pinV cx m v) with
  | true => pinV cx m v
  | false => v

def retSV (cx : Cx) (f : Func) (s : St) : SV :=
  pinR cx s.mem (resolve s.mem (match f.results.toList with
    | [r] => resOf cx s r
    | rs => .tup (rs.map (resOf cx s))))

/-- What a lent pointer is, where it is lent to. -/
def lpT : SV → SV
  | .lp _ _ => .ptr 9990 0
  | v => v
def lpM : List SV → List (Nat × Chunk)
  | [] => []
  | .lp t cs :: _ => [(9990, .box t cs)]
  | _ :: r => lpM r
def noOwn : List SV → Bool
  | [] => true
  | .own _ _ _ :: _ => false
  | _ :: r => noOwn r
/-- No two of them are lent. -/
def lp1 : List SV → Bool
  | [] => true
  | .lp _ cs :: r => noOwn cs && lp0 r
  | _ :: r => lp1 r
where lp0 : List SV → Bool
  | [] => true
  | .lp _ _ :: _ => false
  | _ :: r => lp0 r

def args0 : Nat → List SV → List (Nat × SV)
  | _, [] => []
  | i, v :: r => (i, v) :: args0 (i + 1) r

def eqR : SV → SV → List Prop
  | .tup a, .tup b => eqRs a b
  | a, b => eqTop a b
where eqRs : List SV → List SV → List Prop
  | [], [] => []
  | a :: r, b :: s => eqTop a b ++ eqRs r s
  | _, _ => [False]

def rawI (cx : Cx) (f : Func) (s : St) : SV :=
  match f.results.toList with
  | [r] => resOf cx s r
  | rs => .tup (rs.map (resOf cx s))
/-- A slice of the function's own is handed over. -/
def ownQ (cx : Cx) (m : List (Nat × Chunk)) (v r : SV) (j : Option Nat) (e : Nat) (ks : List CK) (l : List SV) : Prop :=
  match ownGet j v with
  | .osl c ver => match lkO m c with
    | some (.row v' e' ks' l') => match Nat.beq v' ver && Nat.beq e' e && cksEq ks' ks && !((names (ownPut j .any v)).contains c) with
      | true => andL (eqR (pinR cx m (resolve m (ownPut j .any v))) (ownPut j .any r)) ∧ l' = l
      | false => False
    | _ => False
  | .nilsl => match j with
    | none => l = []
    | some _ => False
  | _ => False
def endQ (cx : Cx) (f : Func) (s : St) (r : SV) : Prop :=
  match resBs cx s f.results.toList with
  | true => match ownAt r with
    | none => andL (eqR (retSV cx f s) r)
    | some (j, e, ks, l) => ownQ cx s.mem (rawI cx f s) r j e ks l
  | false => False

/-- A function with what holds at its loops' heads: it hands back this. -/
def wpF (cx : Cx) (An : Nat → Option Ann) (labs : List Nat) (f : Func) (args : List SV) (r : SV) : Prop :=
  match f.body with
  | some c => match closedAL args && lp1 args, closed r with
    | true, true => wpC cx An (scopeH cx An labs) c 0 ⟨args0 0 (args.map lpT), lpM args⟩ (fun e s => match e with
      | .ret => endQ cx f s r
      | .normal => endQ cx f s r
      | _ => False)
    | _, _ => False
  | none => False

def endI (cx : Cx) (f : Func) (s : St) (K : SV → List (Nat × Chunk) → Prop) : Prop :=
  match resBs cx s f.results.toList with
  | true => forceV (rawI cx f s) fun v => forceM s.mem fun m => K v m
  | false => False
/-- A function that is gone through where it is called. -/
def wpI (cx : Cx) (An : Nat → Option Ann) (labs : List Nat) (f : Func) (as : List SV) (m : List (Nat × Chunk)) (K : SV → List (Nat × Chunk) → Prop) : Prop :=
  match f.body with
  | some c => wpC cx An (scopeH cx An labs) c 0 ⟨args0 0 as, m⟩ (fun e s => match e with
    | .ret => endI cx f s K
    | .normal => endI cx f s K
    | _ => False)
  | none => False
end Go.Rx

/- The framework, part 3: when a value of the model is an abstract one; when a state of a run is one that is written out. -/
namespace Go.Rx
open Go.RowKit

/-- 'x' is 'v', off memory that nobody writes any more (the blocks I). -/
inductive Conc (I : Nat → Prop) (w : World) : Value → SV → Prop where
  | any (x : Value) : Conc I w x .any
  | und : Conc I w undef .und
  | int (k : IntKind) (n : Int) : Conc I w (.int k n) (.int k n)
  | bool (b : Bool) : Conc I w (.bool b) (.bool b)
  | tt : Conc I w (.bool true) .tt
  | ff : Conc I w (.bool false) .ff
  | flt (b : Nat) : Conc I w (.float .f64 b) (.flt b)
  | cpx (x y : Nat) : Conc I w (.complex .f64 x y) (.cpx x y)
  | str (b : ByteArray) (s : List UInt8) : b.data.toList = s → Conc I w (.string b) (.str s)
  | agg (xs : Array Value) (cs : List SV) : xs.size = cs.length → (∀ i, Conc I w (xs.getD i undef) (cs.getD i .any)) → Conc I w (.agg xs) (.agg cs)
  | tup (xs : Array Value) (cs : List SV) : xs.size = cs.length → (∀ i, Conc I w (xs.getD i undef) (cs.getD i .any)) → Conc I w (.tuple xs) (.tup cs)
  | nilp : Conc I w (.pointer none) .nilp
  | nilsl : Conc I w (.slice none 0 0) .nilsl
  | fn (f : Nat) (xs : Array Value) (cs : List SV) : xs.size = cs.length → (∀ i, Conc I w (xs.getD i undef) (cs.getD i .any)) → Conc I w (.func (.func f) #[] xs) (.fn f cs)
  | sl0 (a : Option Addr) (cap : Nat) (ks : List CK) : Conc I w (.slice a 0 cap) (.sl ks [])
  | sl (b off cap : Nat) (ks : List CK) (l : List SV) (x : Nat → Nat → Value) : I b → l.length ≤ cap → (∀ e, e ∈ l → shOk ks e) →
      (∀ i j, i < l.length → j < ks.length → w.cell? ⟨b, off + i * ks.length + j, none⟩ = some (x i j)) →
      (∀ i j, i < l.length → j < ks.length → Conc I w (x i j) (elCell l i j)) → Conc I w (.slice (some ⟨b, off, none⟩) l.length cap) (.sl ks l)
  | ep (b off : Nat) (ks : List CK) (l : List SV) (i o : Nat) (x : Nat → Nat → Value) : I b → i < l.length → (∀ e, e ∈ l → shOk ks e) →
      (∀ i j, i < l.length → j < ks.length → w.cell? ⟨b, off + i * ks.length + j, none⟩ = some (x i j)) →
      (∀ i j, i < l.length → j < ks.length → Conc I w (x i j) (elCell l i j)) → Conc I w (.pointer (some ⟨b, off + i * ks.length + o, none⟩)) (.ep ks l i o)
  | nb (b : Bool) (l : List SV) : (b = true → l = []) → Conc I w (.bool b) (.nb l)
  | fsl (ad : Option Addr) (ks : List CK) (l : List SV) : Conc I w (.slice ad l.length l.length) (.sl ks l) → Conc I w (.slice ad l.length l.length) (.fsl ks l)
  | oep (b : Bool) (x : Value) (ks : List CK) (l : List SV) (i o : Nat) : (b = false → x = .pointer none) → (b = true → Conc I w x (.ep ks l i o)) → Conc I w x (.oep b ks l i o)

/-- It stays so where these blocks stay as they are. -/
theorem Conc.mono {I I' : Nat → Prop} {w w' : World} {x : Value} {v : SV} (hI : ∀ b, I b → I' b) (hw : ∀ b, I b → w'.heap[b]? = w.heap[b]?) (h : Conc I w x v) : Conc I' w' x v := by
  induction h with
  | any x => exact .any x
  | und => exact .und
  | int k n => exact .int k n
  | flt b => exact .flt b
  | cpx x y => exact .cpx x y
  | bool b => exact .bool b
  | tt => exact .tt
  | ff => exact .ff
  | str b s h => exact .str b s h
  | agg xs cs hs _ ih => exact .agg xs cs hs ih
  | tup xs cs hs _ ih => exact .tup xs cs hs ih
  | nilp => exact .nilp
  | nilsl => exact .nilsl
  | fn f xs cs hs _ ih => exact .fn f xs cs hs ih
  | sl0 a cap ks => exact .sl0 a cap ks
  | sl b off cap ks l x hb hc hsh hx _ ih =>
    exact .sl b off cap ks l x (hI b hb) hc hsh (fun i j hi hj => by rw [World.cell?_of_block (w := w) (hw b hb)]; exact hx i j hi hj) ih
  | ep b off ks l i o x hb hi hsh hx _ ih =>
    exact .ep b off ks l i o x (hI b hb) hi hsh (fun i j hi hj => by rw [World.cell?_of_block (w := w) (hw b hb)]; exact hx i j hi hj) ih
  | nb b l h => exact .nb b l h
  | fsl ad ks l _ ih => exact .fsl ad ks l ih
  | oep b x ks l i o h1 _ ih => exact .oep b x ks l i o h1 ih

/-- Where a function's own memory lies. -/
structure Env where
  loc : Nat → Option Nat
  cv : Nat → Value
  I : Nat → Prop
  gv : Nat → Value

def verOf : Option Chunk → Option Nat
  | some (.row v _ _ _) => some v
  | some (.froz v _ _) => some v
  | _ => none

/-- Is a chunk a map; an iterator? -/
def isMp : Option Chunk → Bool
  | some (.mp _ _ _ _ _) => true
  | _ => false
def isIt : Option Chunk → Bool
  | some (.it _ _ _ _) => true
  | _ => false

/-- The end of a slice. -/
def TailV (y : Value) (sz k : Nat) (x : Value) : Prop := ∀ ad n cap, y = .slice ad n cap → x = .slice (if cap = k then ad else ad.map (·.add (k * sz))) (n - k) (cap - k)

/-- 'x' is 'v', which may name memory of the function's own. -/
inductive CV (E : Env) (m : Nat → Option Chunk) (w : World) : Value → SV → Prop where
  | conc (x : Value) (v : SV) : Conc E.I w x v → CV E m w x v
  | agg (xs : Array Value) (cs : List SV) : xs.size = cs.length → (∀ i, CV E m w (xs.getD i undef) (cs.getD i .any)) → CV E m w (.agg xs) (.agg cs)
  | tup (xs : Array Value) (cs : List SV) : xs.size = cs.length → (∀ i, CV E m w (xs.getD i undef) (cs.getD i .any)) → CV E m w (.tuple xs) (.tup cs)
  | fn (f : Nat) (xs : Array Value) (cs : List SV) : xs.size = cs.length → (∀ i, CV E m w (xs.getD i undef) (cs.getD i .any)) → CV E m w (.func (.func f) #[] xs) (.fn f cs)
  | ptr (c off b : Nat) (t : Nat) (cs : List SV) : m c = some (.box t cs) → E.loc c = some b → CV E m w (.pointer (some ⟨b, off, none⟩)) (.ptr c off)
  | ptx (c off b : Nat) (t : Nat) (cs : List SV) : m c = some (.box t cs) → E.loc c = some b → CV E m w (.pointer (some ⟨b, off, none⟩)) (.ptx c off)
  | mpp (c b : Nat) : isMp (m c) = true → E.loc c = some b → CV E m w (.map (some b)) (.mpp c)
  | itp (c b : Nat) : isIt (m c) = true → E.loc c = some b → CV E m w (.pointer (some ⟨b, 0, none⟩)) (.itp c)
  | osl (x : Value) (c ver v : Nat) : verOf (m c) = some v → ver ≤ v → (ver = v → x = E.cv c) → CV E m w x (.osl c ver)
  | rptr (x : Value) (c sz i o ver v : Nat) : verOf (m c) = some v → ver ≤ v → (ver = v → ∀ b, E.loc c = some b → x = .pointer (some ⟨b, i * sz + o, none⟩)) → CV E m w x (.rptr c sz i o ver)
  | otl (x : Value) (c sz k ver v : Nat) : verOf (m c) = some v → ver ≤ v → (ver = v → TailV (E.cv c) sz k x) → CV E m w x (.otl c sz k ver)

/-- .. -/
def RowA (E : Env) (w : World) (c e : Nat) (ks : List CK) (l : List SV) : Prop :=
  E.loc c = (E.cv c).ownBlock ∧ ∃ xs : List Value, w.ownsRow 0 e ks.length (E.cv c) l.length xs ∧ ∀ i j, i < l.length → j < ks.length → Conc E.I w (xs.getD (i * ks.length + j) undef) (elCell l i j)

/-- .. one without elements, and without room. -/
def RowZ (E : Env) (c : Nat) (l : List SV) : Prop := l = [] ∧ E.loc c = none ∧ ∃ ad, E.cv c = .slice ad 0 0
def RowR (E : Env) (w : World) (c e : Nat) (ks : List CK) (l : List SV) : Prop :=
  (∀ v, v ∈ l → shOk ks v) ∧ (RowA E w c e ks l ∨ RowZ E c l)

/-- A map of the function's own: its entries in the order in which they came, each with its key, its value and its stamp. -/
def EntR (I : Nat → Prop) (w : World) (kk vk : CK) (e : MapEntry) (v : SV) : Prop :=
  shOk [kk, vk, .int .i64] v ∧ Conc I w e.key (v.cells.getD 0 .any) ∧ Conc I w e.val (v.cells.getD 1 .any) ∧ v.cells.getD 2 .any = .int .i64 e.born
def EsR (I : Nat → Prop) (w : World) (kk vk : CK) : List MapEntry → List SV → Prop
  | [], [] => True
  | e :: es, v :: l => EntR I w kk vk e v ∧ EsR I w kk vk es l
  | _, _ => False
theorem EsR.mono {I I' : Nat → Prop} {w w' : World} {kk vk : CK} (hI : ∀ b, I b → I' b) (hw : ∀ b, I b → w'.heap[b]? = w.heap[b]?) : ∀ {es : List MapEntry} {l : List SV}, EsR I w kk vk es l → EsR I' w' kk vk es l
  | [], [], _ => trivial
  | _ :: _, _ :: _, ⟨⟨h1, h2, h3, h4⟩, h5⟩ => ⟨⟨h1, h2.mono hI hw, h3.mono hI hw, h4⟩, EsR.mono hI hw h5⟩
def MapR (I : Nat → Prop) (w : World) (b : Nat) (kk vk : CK) (l : List SV) (ck : Nat) : Prop :=
  ∃ es : Array MapEntry, w.heap[b]? = some (.map es ck) ∧ EsR I w kk vk es.toList l ∧ (∀ e, e ∈ es.toList → e.born < ck) ∧ (es.toList.map (·.born)).Pairwise (· < ·)

/-- What a piece of memory of the function's own is. -/
def ChR (E : Env) (m : Nat → Option Chunk) (w : World) (c : Nat) : Option Chunk → Prop
  | none => True
  | some (.box t cs) => ∃ b xs, E.loc c = some b ∧ w.heap[b]? = some (.cells xs t (0, 0)) ∧ xs.size = cs.length ∧ ∀ i, CV E m w (xs.getD i undef) (cs.getD i .any)
  | some (.row _ e ks l) => RowR E w c e ks l
  | some (.froz _ ks l) => Conc E.I w (E.cv c) (.sl ks l)
  | some (.gh v) => CV E m w (E.gv c) v
  | some (.mp _ kk vk l ck) => ∃ b, E.loc c = some b ∧ MapR E.I w b kk vk l ck
  | some (.it d a sn e) => ∃ b db, E.loc c = some b ∧ CV E m w (.map (some db)) (.mpp d) ∧ w.heap[b]? = some (.mapIter (some db) a sn.reverse.toArray e)

theorem ownsRow_same {w w' : World} {base e size n : Nat} {v : Value} {xs : List Value} (h : w.ownsRow base e size v n xs) (hb : ∀ b, v.ownBlock = some b → w'.heap[b]? = w.heap[b]?) : w'.ownsRow base e size v n xs := by
  obtain ⟨h1, h2⟩ := h
  refine ⟨h1, ?_⟩
  rcases h2 with h2 | ⟨g, cap, cur, rfl, hg, hh, r⟩
  · exact .inl h2
  · exact .inr ⟨g, cap, cur, rfl, hg, by rw [hb g rfl]; exact hh, r⟩

theorem RowR.isSlice {E : Env} {w : World} {c e : Nat} {ks : List CK} {l : List SV} (h : RowR E w c e ks l) : ∃ ad cap, E.cv c = .slice ad l.length cap := by
  obtain ⟨_, ⟨_, xs, ho, _⟩ | ⟨rfl, _, ad, h⟩⟩ := h
  rotate_left
  · exact ⟨ad, 0, h⟩
  rcases ho.2 with ⟨h1, h2⟩ | ⟨g, cap, cur, h1, _⟩
  · exact ⟨none, 0, by rw [h1, h2]⟩
  · exact ⟨_, cap, h1⟩

/-- It may be given away. -/
theorem RowR.toConc {E : Env} {w : World} {c e : Nat} {ks : List CK} {l : List SV} (h : RowR E w c e ks l) {I : Nat → Prop} (hI : ∀ b, E.I b → I b) (hb : ∀ b, E.loc c = some b → I b) : Conc I w (E.cv c) (.sl ks l) := by
  obtain ⟨h1, ⟨h2, xs, ho, h4⟩ | ⟨rfl, _, ad, h⟩⟩ := h
  rotate_left
  · rw [h]; exact .sl0 ad 0 ks
  rcases ho.2 with ⟨e1, e2⟩ | ⟨g, cap, cur, e1, hg, hh, hn, hm, hs, ht⟩
  · have : l = [] := List.eq_nil_of_length_eq_zero e2
    subst this
    rw [e1]
    exact .sl0 none 0 ks
  · rw [e1]
    rw [e1] at h2
    refine .sl g 0 cap ks l (fun i j => xs.getD (i * ks.length + j) undef) (hb g (by rw [h2]; rfl)) hn h1 (fun i j hi hj => ?_) (fun i j hi hj => (h4 i j hi hj).mono hI (fun _ _ => rfl))
    have hlt : i * ks.length + j < l.length * ks.length := by
      have : (i + 1) * ks.length ≤ l.length * ks.length := Nat.mul_le_mul_right _ hi
      rw [Nat.add_mul, Nat.one_mul] at this
      omega
    have hlt2 : i * ks.length + j < cur.size := by
      rw [hs]
      exact Nat.lt_of_lt_of_le hlt (Nat.mul_le_mul_right _ hn)
    rw [Nat.zero_add]
    simp only [World.cell?, hh]
    rw [if_neg (by simp), ← ht, Array.getElem?_eq_getElem hlt2]
    simp [List.getD_eq_getElem?_getD, hlt, hlt2]

/-- Its cells. -/
theorem RowR.cells {E : Env} {w : World} {c e : Nat} {ks : List CK} {l : List SV} (h : RowR E w c e ks l) (hne : 0 < l.length) :
    ∃ g cap, E.loc c = some g ∧ E.cv c = .slice (some ⟨g, 0, none⟩) l.length cap ∧ ∃ f : Nat → Nat → Value, ∀ i j, i < l.length → j < ks.length → w.cell? ⟨g, i * ks.length + j, none⟩ = some (f i j) ∧ Conc E.I w (f i j) (elCell l i j) := by
  obtain ⟨h1, ⟨h2, xs, ho, h4⟩ | ⟨rfl, _⟩⟩ := h
  rotate_left
  · simp at hne
  rcases ho.2 with ⟨e1, e2⟩ | ⟨g, cap, cur, e1, hg, hh, hn, hm, hs, ht⟩
  · omega
  · rw [e1] at h2
    refine ⟨g, cap, h2, e1, fun i j => xs.getD (i * ks.length + j) undef, fun i j hi hj => ⟨?_, h4 i j hi hj⟩⟩
    have hlt : i * ks.length + j < l.length * ks.length := by
      have : (i + 1) * ks.length ≤ l.length * ks.length := Nat.mul_le_mul_right _ hi
      rw [Nat.add_mul, Nat.one_mul] at this
      omega
    have hlt2 : i * ks.length + j < cur.size := by
      rw [hs]
      exact Nat.lt_of_lt_of_le hlt (Nat.mul_le_mul_right _ hn)
    simp only [World.cell?, hh]
    rw [if_neg (by simp), ← ht, Array.getElem?_eq_getElem hlt2]
    simp [List.getD_eq_getElem?_getD, hlt, hlt2]

/-- The world has changed in what is the function's own alone. -/
structure Fr (B : Nat) (M : Nat → Prop) (w w' : World) : Prop where
  os : w'.os = w.os
  tape : w'.tape = w.tape
  output : w'.output = w.output
  size : w.heap.size ≤ w'.heap.size
  block : ∀ k, k < B → ¬ M k → w'.heap[k]? = w.heap[k]?

theorem Fr.refl (B : Nat) (M : Nat → Prop) (w : World) : Fr B M w w := ⟨rfl, rfl, rfl, Nat.le_refl _, fun _ _ _ => rfl⟩
theorem Fr.trans {B : Nat} {M : Nat → Prop} {a b c : World} (h : Fr B M a b) (k : Fr B M b c) : Fr B M a c :=
  ⟨k.os.trans h.os, k.tape.trans h.tape, k.output.trans h.output, Nat.le_trans h.size k.size, fun i hi hM => (k.block i hi hM).trans (h.block i hi hM)⟩

/-- What is asked of each memory in which the program runs: that package-level variables hold what they held; old memory tells it. -/
class Laid (P : Program) where
  ok : World → Prop
  mono : ∀ {w w' : World}, w.heap.size ≤ w'.heap.size → (∀ k, k < w.heap.size → w'.heap[k]? = w.heap[k]?) → ok w → ok w'
@[reducible] def Laid.none (P : Program) : Laid P := ⟨fun _ => True, fun _ _ _ => trivial⟩

/-- A state of a run is one that is written out. -/
structure Rel (P : Program) [Laid P] (nt B : Nat) (M I0 : Nat → Prop) (G : Nat → Value) (w0 : World) (E : Env) (s : St) (a : Act) (w : World) : Prop where
  defers : a.defers = []
  tsize : a.tmps.size = nt
  fr : Fr B M w0 w
  base : B ≤ w.heap.size
  i0 : ∀ b, I0 b → E.I b
  inew : ∀ b, E.I b → b < w.heap.size ∧ (I0 b ∨ B ≤ b ∨ M b)
  loc : ∀ c b, E.loc c = some b → b < w.heap.size ∧ ¬ E.I b ∧ (B ≤ b ∨ M b ∨ (roK c = true ∧ verOf (lkO s.mem c) = none))
  inj : ∀ c c' b, E.loc c = some b → E.loc c' = some b → c = c'
  tm : ∀ t, CV E (lkO s.mem) w (a.tmps.getD t undef) (lk .any s.tm t)
  ch : ∀ c, ChR E (lkO s.mem) w c (lkO s.mem c)
  ld : ∀ w', Fr B M w0 w' → Laid.ok P w'
  gv : E.gv = G

/-- The values are carried over. -/
theorem CV.mono {E E' : Env} {m m' : Nat → Option Chunk} {w w' : World} {x : Value} {v : SV}
    (hI : ∀ b, E.I b → E'.I b) (hw : ∀ b, E.I b → w'.heap[b]? = w.heap[b]?)
    (hb : ∀ c t cs b, m c = some (.box t cs) → E.loc c = some b → (∃ t' cs', m' c = some (.box t' cs')) ∧ E'.loc c = some b)
    (hq : ∀ c b, (isMp (m c) = true ∨ isIt (m c) = true) → E.loc c = some b → (isMp (m c) = true → isMp (m' c) = true) ∧ (isIt (m c) = true → isIt (m' c) = true) ∧ E'.loc c = some b)
    (hv : ∀ c v, verOf (m c) = some v → ∃ v', verOf (m' c) = some v' ∧ v ≤ v' ∧ (v' = v → E'.cv c = E.cv c ∧ ∀ b, E'.loc c = some b → E.loc c = some b))
    (h : CV E m w x v) : CV E' m' w' x v := by
  induction h with
  | conc x v h => exact .conc x v (h.mono hI hw)
  | agg xs cs hs _ ih => exact .agg xs cs hs ih
  | tup xs cs hs _ ih => exact .tup xs cs hs ih
  | fn f xs cs hs _ ih => exact .fn f xs cs hs ih
  | ptr c off b t cs h1 h2 => obtain ⟨⟨t', cs', h3⟩, h4⟩ := hb c t cs b h1 h2; exact .ptr c off b t' cs' h3 h4
  | ptx c off b t cs h1 h2 => obtain ⟨⟨t', cs', h3⟩, h4⟩ := hb c t cs b h1 h2; exact .ptx c off b t' cs' h3 h4
  | mpp c b h1 h2 => obtain ⟨h3, _, h4⟩ := hq c b (.inl h1) h2; exact .mpp c b (h3 h1) h4
  | itp c b h1 h2 => obtain ⟨_, h3, h4⟩ := hq c b (.inr h1) h2; exact .itp c b (h3 h1) h4
  | osl x c ver v h1 h2 h3 =>
    obtain ⟨v', e1, e2, e3⟩ := hv c v h1
    exact .osl x c ver v' e1 (by omega) (fun e => by
      have : v' = v := by omega
      rw [(e3 this).1]; exact h3 (by omega))
  | otl x c sz k ver v h1 h2 h3 =>
    obtain ⟨v', e1, e2, e3⟩ := hv c v h1
    exact .otl x c sz k ver v' e1 (by omega) (fun e => by
      have : v' = v := by omega
      rw [(e3 this).1]; exact h3 (by omega))
  | rptr x c sz i o ver v h1 h2 h3 =>
    obtain ⟨v', e1, e2, e3⟩ := hv c v h1
    exact .rptr x c sz i o ver v' e1 (by omega) (fun e b hb => by
      have : v' = v := by omega
      exact h3 (by omega) b ((e3 this).2 b hb))

/-- Maps and iterators that are what they were. -/
def isPt (ch : Option Chunk) : Prop := isMp ch = true ∨ isIt ch = true
theorem hq_of {E E' : Env} {m m' : Nat → Option Chunk} (h : ∀ c b, isPt (m c) → E.loc c = some b → m' c = m c ∧ E'.loc c = some b) :
    ∀ c b, (isMp (m c) = true ∨ isIt (m c) = true) → E.loc c = some b → (isMp (m c) = true → isMp (m' c) = true) ∧ (isIt (m c) = true → isIt (m' c) = true) ∧ E'.loc c = some b :=
  fun c b h1 h2 => by obtain ⟨e1, e2⟩ := h c b h1 h2; rw [e1]; exact ⟨id, id, e2⟩
theorem isPt_none {c : Option Chunk} (h : isPt c) (hc : c = none) : False := by subst hc; rcases h with h | h <;> cases h
theorem isPt_box {t : Nat} {cs : List SV} {c : Option Chunk} (h : isPt c) (hc : c = some (.box t cs)) : False := by subst hc; rcases h with h | h <;> cases h
theorem isPt_row {v e : Nat} {ks : List CK} {l : List SV} {c : Option Chunk} (h : isPt c) (hc : c = some (.row v e ks l)) : False := by subst hc; rcases h with h | h <;> cases h
theorem isPt_froz {v : Nat} {ks : List CK} {l : List SV} {c : Option Chunk} (h : isPt c) (hc : c = some (.froz v ks l)) : False := by subst hc; rcases h with h | h <;> cases h
theorem isPt_gh {v : SV} {c : Option Chunk} (h : isPt c) (hc : c = some (.gh v)) : False := by subst hc; rcases h with h | h <;> cases h
theorem isPt_ver {c : Option Chunk} {v : Nat} (h : isPt c) (hv : verOf c = some v) : False := by
  match c, h, hv with
  | some (.row _ _ _ _), h, _ => exact isPt_row h rfl
  | some (.froz _ _ _), h, _ => exact isPt_froz h rfl

theorem CV.ofConc {E : Env} {m : Nat → Option Chunk} {w : World} {x : Value} {v : SV} (h : Conc E.I w x v) : CV E m w x v := .conc x v h

mutual
theorem closed_conc {E : Env} {m : Nat → Option Chunk} {w : World} : ∀ (v : SV) (x : Value), closed v = true → CV E m w x v → Conc E.I w x v
  | .any, x, _, _ => .any x
  | .und, _, _, h => by cases h; assumption
  | .int _ _, _, _, h => by cases h; assumption
  | .bool _, _, _, h => by cases h; assumption
  | .tt, _, _, h => by cases h; assumption
  | .ff, _, _, h => by cases h; assumption
  | .str _, _, _, h => by cases h; assumption
  | .flt _, _, _, h => by cases h; assumption
  | .cpx _ _, _, _, h => by cases h; assumption
  | .agg cs, _, hc, h => by
    cases h with
    | conc _ _ h => exact h
    | agg xs _ hs hx => exact .agg xs cs hs (fun i => closedL_conc cs (by simpa [closed] using hc) i _ (hx i))
  | .tup cs, _, hc, h => by
    cases h with
    | conc _ _ h => exact h
    | tup xs _ hs hx => exact .tup xs cs hs (fun i => closedL_conc cs (by simpa [closed] using hc) i _ (hx i))
  | .fn f cs, _, hc, h => by
    cases h with
    | conc _ _ h => exact h
    | fn _ xs _ hs hx => exact .fn f xs cs hs (fun i => closedL_conc cs (by simpa [closed] using hc) i _ (hx i))
  | .ptr _ _, _, hc, _ => by simp [closed] at hc
  | .ptx _ _, _, hc, _ => by simp [closed] at hc
  | .rptr _ _ _ _ _, _, hc, _ => by simp [closed] at hc
  | .osl _ _, _, hc, _ => by simp [closed] at hc
  | .lp _ _, _, hc, _ => by simp [closed] at hc
  | .mpp _, _, hc, _ => by simp [closed] at hc
  | .itp _, _, hc, _ => by simp [closed] at hc
  | .sl _ _, _, _, h => by cases h; assumption
  | .ep _ _ _ _, _, _, h => by cases h; assumption
  | .oep _ _ _ _ _, _, _, h => by cases h; assumption
  | .nb _, _, _, h => by cases h; assumption
  | .fsl _ _, _, _, h => by cases h; assumption
  | .own _ _ _, _, _, h => by cases h; assumption
  | .nilsl, _, _, h => by cases h; assumption
  | .nilp, _, _, h => by cases h; assumption
theorem closedL_conc {E : Env} {m : Nat → Option Chunk} {w : World} : ∀ (cs : List SV), closedL cs = true → ∀ (i : Nat) (x : Value), CV E m w x (cs.getD i .any) → Conc E.I w x (cs.getD i .any)
  | [], _, _, x, _ => by simpa using Conc.any x
  | v :: r, hc, 0, x, h => by
    simp only [closedL, Bool.and_eq_true] at hc
    simpa using closed_conc v x hc.1 (by simpa using h)
  | v :: r, hc, i + 1, x, h => by
    simp only [closedL, Bool.and_eq_true] at hc
    simpa using closedL_conc r hc.2 i x (by simpa using h)
end
end Go.Rx

/- The framework, part 4: what an operation does to a state. -/
namespace Go.Rx
set_option linter.unusedSectionVars false
open Go.RowKit

/-! ### The tables -/
def TkOk (P : Program) : TypeDesc → TK → Prop
  | .int k, .int k' => k = k'
  | .bool, .bool => True
  | .string, .str => True
  | .float k, .flt => k = .f64
  | .complex k, .cpx => k = .f64
  | .struct fs, .struct fl => fs.size = fl.length ∧ ∀ (i : Nat) (f : Field), fs[i]? = some f → fl[i]? = some (f.offset, f.type) ∧ ∃ inf, P.info? f.type = some inf ∧ inf.size ≠ 0
  | .array n e, .arr n' e' => n = n' ∧ e = e'
  | .slice e, .sl e' => e = e'
  | .pointer e, .ptr e' => e = e'
  | .map k e, .mp k' e' => k = k' ∧ e = e'
  | .func _ _ _, .fn => True
  | .tuple _, .tup => True
  | _, _ => False

def CkOk (P : Program) (t : Nat) : CK → Prop
  | .int k => P.underlying t = some (.int k)
  | .bool => P.underlying t = some .bool
  | .str => P.underlying t = some .string
  | _ => False

/-- The zero value of a type of one plain cell. -/
def zVal : List SV → Option Value
  | [.int k n] => some (.int k n)
  | [.ff] => some (.bool false)
  | [.str []] => some (.string ⟨#[]⟩)
  | _ => none

structure TyOk (P : Program) (t : Nat) (L : TyL) : Prop where
  info : ∃ inf z, P.info? t = some inf ∧ inf.size = L.ks.length ∧ inf.bytes = L.bytes ∧ inf.zero = some z ∧ z.cells.size = L.ks.length ∧ L.zero.length = L.ks.length ∧
    ∀ (I : Nat → Prop) (w : World) (i : Nat), Conc I w (z.cells.getD i undef) (L.zero.getD i .any)
  desc : ∃ d, P.underlying t = some d ∧ TkOk P d L.k
  one : L.k.agg = false → L.ks.length = 1
  eq : L.eq = true → ∃ fs, P.underlying t = some (.struct fs) ∧ P.stoodInHeld t = false ∧ P.eqGuardType P.depth t = false ∧ fs.size = L.ks.length ∧
    ∀ (i : Nat) (f : Field), fs[i]? = some f → f.name ≠ "_" ∧ f.offset = i ∧ CkOk P f.type (L.ks.getD i .other)
  zv : ∀ x, zVal L.zero = some x → ∃ inf, P.info? t = some inf ∧ inf.zero = some x

/-- A map that is lent. -/
def MpC (I : Nat → Prop) (w : World) (y : Value) (v : SV) : Prop := ∃ ty kk vk l b ck, v = .own ty [kk, vk, .int .i64] l ∧ y = .map (some b) ∧ MapR I w b kk vk l ck ∧ b < w.heap.size ∧ ¬ I b
/-- A pointer that is lent: what it leads to may be read. -/
def LpOK (I : Nat → Prop) (w : World) (x : Value) (v : SV) : Prop := ∃ t cs b ys, v = .lp t cs ∧ x = .pointer (some ⟨b, 0, none⟩) ∧ w.heap[b]? = some (.cells ys t (0, 0)) ∧ ys.size = cs.length ∧ (∀ i, Conc I w (ys.getD i undef) (cs.getD i .any) ∨ MpC I w (ys.getD i undef) (cs.getD i .any)) ∧ b < w.heap.size ∧ ¬ I b
def ArgOK (I : Nat → Prop) (w : World) (x : Value) (v : SV) : Prop := Conc I w x v ∨ LpOK I w x v
theorem ArgOK.conc {I : Nat → Prop} {w : World} {x : Value} {v : SV} (h : ArgOK I w x v) (hv : closed v = true) : Conc I w x v := by
  rcases h with h | ⟨t, cs, b, ys, rfl, _⟩
  · exact h
  · cases hv

/-- A slice that is the caller's own from now on: in memory that there was not ahead of the call. -/
def OwnR (I : Nat → Prop) (n : Nat) (w : World) (x : Value) (e : Nat) (ks : List CK) (l : List SV) : Prop :=
  (∀ v, v ∈ l → shOk ks v) ∧ (((∀ b, x.ownBlock = some b → n ≤ b ∧ b < w.heap.size ∧ ¬ I b) ∧ ∃ xs : List Value, w.ownsRow 0 e ks.length x l.length xs ∧ ∀ i j, i < l.length → j < ks.length → Conc I w (xs.getD (i * ks.length + j) undef) (elCell l i j)) ∨ (l = [] ∧ ∃ ad, x = .slice ad 0 0))
def ownSel (j : Option Nat) (x : Value) : Value :=
  match j with
  | none => x
  | some j => match x with
    | .tuple xs => xs.getD j undef
    | x => x
def ResOK (I : Nat → Prop) (n : Nat) (w : World) (x : Value) (r : SV) : Prop :=
  Conc I w x r ∨ ∃ j e ks l, ownAt r = some (j, e, ks, l) ∧ Conc I w x (ownPut j .any r) ∧ OwnR I n w (ownSel j x) e ks l
theorem ResOK.conc {I : Nat → Prop} {n : Nat} {w : World} {x : Value} {r : SV} (h : ResOK I n w x r) (hr : ownAt r = none) : Conc I w x r := by
  rcases h with h | ⟨j, e, ks, l, h1, _⟩
  · exact h
  · rw [hr] at h1; cases h1

/-- In whatever memory: called with these, the function hands back this, and leaves what there was as it was. -/
def FnOK (P : Program) [Laid P] (f : Nat) (as : List SV) (r : SV) : Prop :=
  ∀ (I : Nat → Prop) (w : World) (xs : Array Value), Laid.ok P w → (∀ b, I b → b < w.heap.size) → xs.size = as.length → (∀ i, ArgOK I w (xs.getD i undef) (as.getD i .any)) →
    Calls P f xs w fun e w' => ∃ (x : Value) (I' : Nat → Prop), e = .returned x ∧ Fr w.heap.size (fun _ => False) w w' ∧ (∀ b, I b → I' b) ∧ (∀ b, I' b → b < w'.heap.size ∧ (I b ∨ w.heap.size ≤ b)) ∧ ResOK I' w.heap.size w' x r

def FnB (P : Program) (f : Nat) : Prop := ∃ fn, P.funcs[f]? = some fn ∧ fn.body.isNone = false ∧ (fn.name == "runtime.NumGoroutine") = false

/-- In whatever run: called with these, in a memory like this, the function comes to an end of which what is asked holds. -/
def InlOK (P : Program) [Laid P] (f : Nat) (T : List SV → List (Nat × Chunk) → (SV → List (Nat × Chunk) → Prop) → Prop) : Prop :=
  ∀ (B : Nat) (M I0 : Nat → Prop) (G : Nat → Value) (w0 : World) (E : Env) (m : List (Nat × Chunk)) (w : World) (as : List SV) (xs : Array Value) (K : SV → List (Nat × Chunk) → Prop),
    Rel P 0 B M I0 G w0 E ⟨[], m⟩ ⟨#[], []⟩ w → xs.size = as.length → (∀ i, CV E (lkO m) w (xs.getD i undef) (as.getD i .any)) → T as m K →
    Calls P f xs w fun e w' => ∃ (x : Value) (r : SV) (m' : List (Nat × Chunk)) (E' : Env), e = .returned x ∧ Rel P 0 B M I0 G w0 E' ⟨[], m'⟩ ⟨#[], []⟩ w' ∧ CV E' (lkO m') w' x r ∧ K r m'

def obH : Option Prop → Prop
  | none => True
  | some p => p

structure CxOk (P : Program) [Laid P] (cx : Cx) : Prop where
  mixed : P.follows .mixedOrders = true
  ty : ∀ t L, lkO cx.ty t = some L → TyOk P t L
  fb : ∀ f c, lkO cx.fn f = some c → FnB P f
  fn : ∀ f c, lkO cx.fn f = some c → ∀ as, closedAL as = true → obH (c.pre as) → closed (c.res as) = true ∧ FnOK P f as (c.res as)
  ib : ∀ f T, lkO cx.inl f = some T → FnB P f
  inl : ∀ f T, lkO cx.inl f = some T → ∀ off, InlOK P f (T off)

/-! ### Look-ups -/
theorem beqN (a b : Nat) : Nat.beq a b = decide (a = b) := by
  by_cases h : a = b
  · subst h; simp [Nat.beq_refl]
  · rw [decide_eq_false h]
    cases hb : Nat.beq a b with
    | false => rfl
    | true => exact absurd (Nat.eq_of_beq_eq_true hb) h

theorem lkO_cons {α : Type} (k : Nat) (v : α) (r : List (Nat × α)) (n : Nat) : lkO ((k, v) :: r) n = if k = n then some v else lkO r n := by
  conv => lhs; unfold lkO
  rw [beqN]
  by_cases h : k = n <;> simp [h]
theorem lk_cons {α : Type} (d : α) (k : Nat) (v : α) (r : List (Nat × α)) (n : Nat) : lk d ((k, v) :: r) n = if k = n then v else lk d r n := by
  conv => lhs; unfold lk
  rw [beqN]
  by_cases h : k = n <;> simp [h]
theorem lkO_append {α : Type} (a b : List (Nat × α)) (n : Nat) : lkO (a ++ b) n = (match lkO a n with | some v => some v | none => lkO b n) := by
  induction a with
  | nil => simp [lkO]
  | cons x r ih =>
    obtain ⟨k, v⟩ := x
    rw [List.cons_append, lkO_cons, lkO_cons, ih]
    by_cases h : k = n <;> simp [h]

/-! ### Frames -/
theorem put_getD {a : Act} {d : Nat} {v : Value} (hd : d < a.tmps.size) (t : Nat) : (a.put (some d) v).tmps.getD t undef = if d = t then v else a.tmps.getD t undef := by
  simp only [Act.put, Array.getD_eq_getD_getElem?, Array.getElem?_setIfInBounds]
  by_cases h : d = t
  · subst h; simp [hd]
  · simp [h]
theorem put_size {a : Act} {d : Option Nat} {v : Value} : (a.put d v).tmps.size = a.tmps.size := by cases d <;> simp [Act.put]
theorem put_defers' {a : Act} {d : Option Nat} {v : Value} : (a.put d v).defers = a.defers := by cases d <;> rfl

section
variable {cx : Cx} {P : Program} [Laid P] {nt B : Nat} {M I0 : Nat → Prop} {G : Nat → Value} {w0 : World} {E : Env} {s : St} {a : Act} {w : World}

theorem Rel.eval (h : Rel P nt B M I0 G w0 E s a w) (x : Operand) : CV E (lkO s.mem) w (a.eval x) (ev s.tm x) := by
  cases x with
  | tmp t => exact h.tm t
  | const v =>
    refine .conc _ _ ?_
    show Conc _ _ v (ofVal v)
    unfold ofVal
    split
    · exact .int _ _
    · exact .tt
    · exact .ff
    · exact .str _ _ rfl
    · exact .flt _
    · exact .cpx _ _
    · exact .nilsl
    · exact .nilp
    · exact .any _
  | global g => exact .conc _ _ (.any _)
  | func f => exact .conc _ _ (.fn f #[] [] rfl (fun i => by simpa using Conc.any _))

/-- The next state, where slots and memory turn: what is to be shown. -/
theorem Rel.next (h : Rel P nt B M I0 G w0 E s a w) {E' : Env} {w' : World} {d : Option Nat} {x : Value} {v : SV} {ch : List (Nat × Chunk)} (hd : ∀ k, d = some k → k < nt)
    (hfr : Fr B M w w') (hI : ∀ b, E.I b → E'.I b) (hnew : ∀ b, E'.I b → b < w'.heap.size ∧ (I0 b ∨ B ≤ b ∨ M b))
    (hloc : ∀ c b, E'.loc c = some b → b < w'.heap.size ∧ ¬ E'.I b ∧ (B ≤ b ∨ M b ∨ (roK c = true ∧ verOf (lkO (ch ++ s.mem) c) = none))) (hinj : ∀ c c' b, E'.loc c = some b → E'.loc c' = some b → c = c')
    (hm : ∀ x v, CV E (lkO s.mem) w x v → CV E' (lkO (ch ++ s.mem)) w' x v) (hx : CV E' (lkO (ch ++ s.mem)) w' x v)
    (hch : ∀ c, ChR E' (lkO (ch ++ s.mem)) w' c (lkO (ch ++ s.mem) c)) (hg : E'.gv = E.gv := by rfl) : Rel P nt B M I0 G w0 E' (upd s d v ch) (a.put d x) w' := by
  refine ⟨?_, ?_, h.fr.trans hfr, Nat.le_trans h.base hfr.size, fun b hb => hI b (h.i0 b hb), hnew, hloc, hinj, ?_, hch, h.ld, hg.trans h.gv⟩
  · rw [put_defers']; exact h.defers
  · rw [put_size]; exact h.tsize
  · intro t
    cases d with
    | none => exact hm _ _ (h.tm t)
    | some k =>
      have hk : k < a.tmps.size := by rw [h.tsize]; exact hd k rfl
      rw [put_getD hk]
      show CV E' _ w' _ (lk .any ((k, v) :: s.tm) t)
      rw [lk_cons]
      by_cases e : k = t
      · rw [if_pos e, if_pos e]; exact hx
      · rw [if_neg e, if_neg e]; exact hm _ _ (h.tm t)

/-- A piece of memory that is as it was. -/
theorem ChR.mono {E E' : Env} {m m' : Nat → Option Chunk} {w w' : World} {c : Nat} {ch : Option Chunk} (hI : ∀ b, E.I b → E'.I b) (hw : ∀ b, E.I b → w'.heap[b]? = w.heap[b]?)
    (hm : ∀ x v, CV E m w x v → CV E' m' w' x v) (hl : E'.loc c = E.loc c) (hc : E'.cv c = E.cv c) (hb : ∀ b, E.loc c = some b → w'.heap[b]? = w.heap[b]?) (h : ChR E m w c ch) (hg : E'.gv c = E.gv c := by rfl) : ChR E' m' w' c ch := by
  match ch, h with
  | none, _ => trivial
  | some (.box t cs), ⟨b, xs, h1, h2, h3, h4⟩ => exact ⟨b, xs, by rw [hl]; exact h1, by rw [hb b h1]; exact h2, h3, fun i => hm _ _ (h4 i)⟩
  | some (.row v e ks l), ⟨h0, .inr ⟨h1, h2, ad, h3⟩⟩ => exact ⟨h0, .inr ⟨h1, by rw [hl]; exact h2, ad, by rw [hc]; exact h3⟩⟩
  | some (.row v e ks l), ⟨h0, .inl ⟨h1, xs, h2, h3⟩⟩ =>
    exact ⟨h0, .inl <| (by exact ⟨by rw [hl, hc]; exact h1, xs, by rw [hc]; exact ownsRow_same h2 (fun b e => hb b (h1.trans e)), fun i j hi hj => (h3 i j hi hj).mono hI hw⟩)⟩
  | some (.froz v ks l), h => exact (by show Conc _ _ (E'.cv c) _; rw [hc]; exact Conc.mono hI hw h)
  | some (.gh v), h => exact (by show CV _ _ _ (E'.gv c) _; rw [hg]; exact hm _ _ h)
  | some (.mp t kk vk l ck), ⟨b, h1, es, h2, h3, h4⟩ => exact ⟨b, by rw [hl]; exact h1, es, by rw [hb b h1]; exact h2, h3.mono hI hw, h4⟩
  | some (.it d a sn e), ⟨b, db, h1, h2, h3⟩ => exact ⟨b, db, by rw [hl]; exact h1, hm _ _ h2, by rw [hb b h1]; exact h3⟩

/-- The value alone is new. -/
theorem Rel.val (h : Rel P nt B M I0 G w0 E s a w) {d : Option Nat} {x : Value} {v : SV} (hd : ∀ k, d = some k → k < nt) (hx : CV E (lkO s.mem) w x v) :
    Rel P nt B M I0 G w0 E (upd s d v []) (a.put d x) w :=
  h.next hd (Fr.refl _ _ _) (fun _ h => h) h.inew h.loc h.inj (fun _ _ h => h) hx h.ch

/-- A state with the same slots and memory. -/
theorem Rel.congr (h : Rel P nt B M I0 G w0 E s a w) {s' : St} (ht : ∀ t, lk .any s'.tm t = lk .any s.tm t) (hm : ∀ c, lkO s'.mem c = lkO s.mem c) : Rel P nt B M I0 G w0 E s' a w := by
  have e : lkO s'.mem = lkO s.mem := funext hm
  refine ⟨h.defers, h.tsize, h.fr, h.base, h.i0, h.inew, by rw [e]; exact h.loc, h.inj, fun t => ?_, fun c => ?_, h.ld, h.gv⟩
  · rw [e, ht]; exact h.tm t
  · rw [e]; exact h.ch c

/-- A draw. -/
theorem Rel.drew (h : Rel P nt B M I0 G w0 E s a w) : Rel P nt B M I0 G w0 E s a { w with drawn := w.drawn + 1 } := by
  have hf : Fr B M w { w with drawn := w.drawn + 1 } := ⟨rfl, rfl, rfl, Nat.le_refl _, fun _ _ _ => rfl⟩
  have hm : ∀ x v, CV E (lkO s.mem) w x v → CV E (lkO s.mem) { w with drawn := w.drawn + 1 } x v := fun x v hx =>
    CV.mono (E := E) (m := lkO s.mem) (w := w) (fun _ h => h) (fun _ _ => rfl) (fun c t cs b h1 h2 => ⟨⟨t, cs, h1⟩, h2⟩) (hq_of fun _ _ _ h => ⟨rfl, h⟩) (fun c v h => ⟨v, h, Nat.le_refl _, fun _ => ⟨rfl, fun _ h => h⟩⟩) hx
  exact ⟨h.defers, h.tsize, h.fr.trans hf, h.base, h.i0, h.inew, h.loc, h.inj, fun t => hm _ _ (h.tm t), fun c => ChR.mono (E := E) (m := lkO s.mem) (w := w) (fun _ h => h) (fun _ _ => rfl) hm rfl rfl (fun _ _ => rfl) (h.ch c), h.ld, h.gv⟩

/-- A new block. -/
def Env.withBlock (E : Env) (d b : Nat) (x : Value) : Env := { E with loc := fun c => if c = d then some b else E.loc c, cv := fun c => if c = d then x else E.cv c }

theorem heap_push (w : World) (o : Obj) (b : Nat) (h : b < w.heap.size) : (w.alloc o).heap[b]? = w.heap[b]? := Below.heap_alloc w o b h
theorem heap_new (w : World) (o : Obj) : (w.alloc o).heap[w.heap.size]? = some o := by
  show (w.heap.push o)[w.heap.size]? = some o
  simp

/-- .. of a key that names nothing yet. -/
theorem Rel.alloc (h : Rel P nt B M I0 G w0 E s a w) {d kk : Nat} {x : Value} {o : Obj} {c0 : Chunk} (hd : d < nt) (hfree : lkO s.mem kk = none)
    {v : SV} {chs : List (Nat × Chunk)} (hch : chs = [(kk, c0)])
    (hx : ∀ E', E' = E.withBlock kk w.heap.size x → (∀ y u, CV E (lkO s.mem) w y u → CV E' (lkO (chs ++ s.mem)) (w.alloc o) y u) → CV E' (lkO (chs ++ s.mem)) (w.alloc o) x v ∧ ChR E' (lkO (chs ++ s.mem)) (w.alloc o) kk (some c0)) :
    Rel P nt B M I0 G w0 (E.withBlock kk w.heap.size x) (upd s (some d) v chs) (a.put (some d) x) (w.alloc o) := by
  subst hch
  have hsz : (w.alloc o).heap.size = w.heap.size + 1 := World.size_alloc ..
  have hI : ∀ b, E.I b → (w.alloc o).heap[b]? = w.heap[b]? := fun b hb => heap_push w o b (h.inew b hb).1
  have hlk : ∀ c, lkO ([(kk, c0)] ++ s.mem) c = if kk = c then some c0 else lkO s.mem c := fun c => by rw [List.singleton_append, lkO_cons]
  have hm : ∀ y u, CV E (lkO s.mem) w y u → CV (E.withBlock kk w.heap.size x) (lkO ([(kk, c0)] ++ s.mem)) (w.alloc o) y u := fun y u hy => by
    refine CV.mono (E := E) (m := lkO s.mem) (w := w) (fun _ h => h) hI (fun c t cs b h1 h2 => ?_) (hq_of fun c b h1 h2 => ?_) (fun c v h1 => ?_) hy
    · have hc : c ≠ kk := fun e => by subst e; rw [hfree] at h1; cases h1
      exact ⟨⟨t, cs, by rw [hlk, if_neg (Ne.symm hc)]; exact h1⟩, by simp [Env.withBlock, hc, h2]⟩
    · have hc : c ≠ kk := fun e => by subst e; exact isPt_none h1 hfree
      exact ⟨by rw [hlk, if_neg (Ne.symm hc)], by simp [Env.withBlock, hc, h2]⟩
    · have hc : c ≠ kk := fun e => by subst e; rw [hfree] at h1; cases h1
      exact ⟨v, by rw [hlk, if_neg (Ne.symm hc)]; exact h1, Nat.le_refl _, fun _ => ⟨by simp [Env.withBlock, hc], fun b hb => by simpa [Env.withBlock, hc] using hb⟩⟩
  obtain ⟨hx1, hx2⟩ := hx _ rfl hm
  refine h.next (fun k hk => by cases hk; exact hd) ⟨rfl, rfl, rfl, by omega, fun k hk _ => heap_push w o k (Nat.lt_of_lt_of_le hk h.base)⟩ (fun _ h => h)
    (fun b hb => ⟨by have := (h.inew b hb).1; omega, (h.inew b hb).2⟩) ?_ ?_ hm hx1 ?_
  · intro c b hb
    simp only [Env.withBlock] at hb
    by_cases hc : c = kk
    · simp only [hc, if_true, Option.some.injEq] at hb
      subst hb
      exact ⟨by omega, fun hI' => by have := (h.inew _ hI').1; omega, .inl h.base⟩
    · simp only [hc, if_false] at hb
      obtain ⟨h1, h2, h3⟩ := h.loc c b hb
      refine ⟨by omega, h2, ?_⟩
      rw [hlk, if_neg (fun e => hc e.symm)]
      exact h3
  · intro c c' b hb hb'
    simp only [Env.withBlock] at hb hb'
    by_cases hc : c = kk <;> by_cases hc' : c' = kk
    · rw [hc, hc']
    · simp only [hc, if_true, Option.some.injEq] at hb
      simp only [hc', if_false] at hb'
      have := (h.loc c' b hb').1
      omega
    · simp only [hc', if_true, Option.some.injEq] at hb'
      simp only [hc, if_false] at hb
      have := (h.loc c b hb).1
      omega
    · simp only [hc, if_false] at hb
      simp only [hc', if_false] at hb'
      exact h.inj c c' b hb hb'
  · intro c
    rw [hlk]
    by_cases hc : kk = c
    · subst hc; simp only [if_true]; exact hx2
    · rw [if_neg hc]
      have hc' : ¬ c = kk := fun e => hc e.symm
      exact ChR.mono (E := E) (m := lkO s.mem) (w := w) (fun _ h => h) hI hm (by simp [Env.withBlock, hc']) (by simp [Env.withBlock, hc']) (fun b hb => heap_push w o b (h.loc c b hb).1) (h.ch c)
end
end Go.Rx

/- The framework, part 5: every operation does what the executor says: operations on values. -/
namespace Go.Rx
set_option linter.unusedSectionVars false
open Go.RowKit

section
variable {E : Env} {m : Nat → Option Chunk} {w : World} {x : Value}

theorem CV.inv_tt (h : CV E m w x .tt) : x = .bool true := by cases h with | conc _ _ h => cases h; rfl
theorem CV.inv_ff (h : CV E m w x .ff) : x = .bool false := by cases h with | conc _ _ h => cases h; rfl
theorem CV.inv_bool {b : Bool} (h : CV E m w x (.bool b)) : x = .bool b := by cases h with | conc _ _ h => cases h; rfl
theorem CV.inv_und (h : CV E m w x .und) : x = undef := by cases h with | conc _ _ h => cases h; rfl
theorem CV.inv_int {k : IntKind} {n : Int} (h : CV E m w x (.int k n)) : x = .int k n := by cases h with | conc _ _ h => cases h; rfl
theorem CV.inv_flt {b : Nat} (h : CV E m w x (.flt b)) : x = .float .f64 b := by cases h with | conc _ _ h => cases h; rfl
theorem CV.inv_cpx {a b : Nat} (h : CV E m w x (.cpx a b)) : x = .complex .f64 a b := by cases h with | conc _ _ h => cases h; rfl
theorem CV.inv_str {s : List UInt8} (h : CV E m w x (.str s)) : ∃ b, x = .string b ∧ b.data.toList = s := by cases h with | conc _ _ h => cases h with | str b _ h => exact ⟨b, rfl, h⟩
theorem CV.inv_nilp (h : CV E m w x .nilp) : x = .pointer none := by cases h with | conc _ _ h => cases h; rfl
theorem CV.inv_nb {l : List SV} (h : CV E m w x (.nb l)) : ∃ b, x = .bool b ∧ (b = true → l = []) := by cases h with | conc _ _ h => cases h with | nb b _ h => exact ⟨b, rfl, h⟩
theorem CV.inv_fsl {ks : List CK} {l : List SV} (h : CV E m w x (.fsl ks l)) : ∃ ad, x = .slice ad l.length l.length ∧ Conc E.I w x (.sl ks l) := by cases h with | conc _ _ h => cases h with | fsl ad _ _ h => exact ⟨ad, rfl, h⟩
theorem CV.inv_nilsl (h : CV E m w x .nilsl) : x = .slice none 0 0 := by cases h with | conc _ _ h => cases h; rfl
theorem CV.inv_agg {cs : List SV} (h : CV E m w x (.agg cs)) : ∃ xs, x = .agg xs ∧ xs.size = cs.length ∧ ∀ i, CV E m w (xs.getD i undef) (cs.getD i .any) := by
  cases h with
  | conc _ _ h => cases h with | agg xs _ h1 h2 => exact ⟨xs, rfl, h1, fun i => .conc _ _ (h2 i)⟩
  | agg xs _ h1 h2 => exact ⟨xs, rfl, h1, h2⟩
theorem CV.inv_tup {cs : List SV} (h : CV E m w x (.tup cs)) : ∃ xs, x = .tuple xs ∧ xs.size = cs.length ∧ ∀ i, CV E m w (xs.getD i undef) (cs.getD i .any) := by
  cases h with
  | conc _ _ h => cases h with | tup xs _ h1 h2 => exact ⟨xs, rfl, h1, fun i => .conc _ _ (h2 i)⟩
  | tup xs _ h1 h2 => exact ⟨xs, rfl, h1, h2⟩
theorem CV.inv_fn {f : Nat} {cs : List SV} (h : CV E m w x (.fn f cs)) : ∃ xs, x = .func (.func f) #[] xs ∧ xs.size = cs.length ∧ ∀ i, CV E m w (xs.getD i undef) (cs.getD i .any) := by
  cases h with
  | conc _ _ h => cases h with | fn _ xs _ h1 h2 => exact ⟨xs, rfl, h1, fun i => .conc _ _ (h2 i)⟩
  | fn _ xs _ h1 h2 => exact ⟨xs, rfl, h1, h2⟩
theorem CV.inv_ptr {c off : Nat} (h : CV E m w x (.ptr c off)) : ∃ b t cs, x = .pointer (some ⟨b, off, none⟩) ∧ m c = some (.box t cs) ∧ E.loc c = some b := by
  cases h with
  | conc _ _ h => cases h
  | ptr _ _ b t cs h1 h2 => exact ⟨b, t, cs, rfl, h1, h2⟩
theorem CV.inv_ptx {c off : Nat} (h : CV E m w x (.ptx c off)) : ∃ b t cs, x = .pointer (some ⟨b, off, none⟩) ∧ m c = some (.box t cs) ∧ E.loc c = some b := by
  cases h with
  | conc _ _ h => cases h
  | ptx _ _ b t cs h1 h2 => exact ⟨b, t, cs, rfl, h1, h2⟩
theorem CV.inv_mpp {c : Nat} (h : CV E m w x (.mpp c)) : ∃ b, x = .map (some b) ∧ isMp (m c) = true ∧ E.loc c = some b := by
  cases h with
  | conc _ _ h => cases h
  | mpp _ b h1 h2 => exact ⟨b, rfl, h1, h2⟩
theorem CV.inv_itp {c : Nat} (h : CV E m w x (.itp c)) : ∃ b, x = .pointer (some ⟨b, 0, none⟩) ∧ isIt (m c) = true ∧ E.loc c = some b := by
  cases h with
  | conc _ _ h => cases h
  | itp _ b h1 h2 => exact ⟨b, rfl, h1, h2⟩
theorem isMp_some {ch : Option Chunk} (h : isMp ch = true) : ∃ t kk vk l ck, ch = some (.mp t kk vk l ck) := by
  match ch, h with
  | some (.mp t kk vk l ck), _ => exact ⟨t, kk, vk, l, ck, rfl⟩
theorem isIt_some {ch : Option Chunk} (h : isIt ch = true) : ∃ d a sn z, ch = some (.it d a sn z) := by
  match ch, h with
  | some (.it d a sn z), _ => exact ⟨d, a, sn, z, rfl⟩
theorem CV.inv_osl {c ver : Nat} (h : CV E m w x (.osl c ver)) : ∃ v, verOf (m c) = some v ∧ (ver = v → x = E.cv c) := by
  cases h with
  | conc _ _ h => cases h
  | osl _ _ _ v h1 h2 h3 => exact ⟨v, h1, h3⟩
theorem CV.inv_otl {c sz k ver : Nat} (h : CV E m w x (.otl c sz k ver)) : ∃ v, verOf (m c) = some v ∧ (ver = v → TailV (E.cv c) sz k x) := by
  cases h with
  | conc _ _ h => cases h
  | otl _ _ _ _ _ v h1 h2 h3 => exact ⟨v, h1, h3⟩
theorem CV.inv_rptr {c sz i o ver : Nat} (h : CV E m w x (.rptr c sz i o ver)) : ∃ v, verOf (m c) = some v ∧ ver ≤ v ∧ (ver = v → ∀ b, E.loc c = some b → x = .pointer (some ⟨b, i * sz + o, none⟩)) := by
  cases h with
  | conc _ _ h => cases h
  | rptr _ _ _ _ _ _ v h1 h2 h3 => exact ⟨v, h1, h2, h3⟩
theorem CV.inv_sl {ks : List CK} {l : List SV} (h : CV E m w x (.sl ks l)) : Conc E.I w x (.sl ks l) := by cases h with | conc _ _ h => exact h
theorem oep_inv {I : Nat → Prop} {w : World} {x : Value} {b : Bool} {ks : List CK} {l : List SV} {i o : Nat} (h : Conc I w x (.oep b ks l i o)) : (b = false → x = .pointer none) ∧ (b = true → Conc I w x (.ep ks l i o)) := by
  cases h with
  | oep _ _ _ _ _ _ q1 q2 => exact ⟨q1, q2⟩
theorem CV.inv_oep {b : Bool} {ks : List CK} {l : List SV} {i o : Nat} (h : CV E m w x (.oep b ks l i o)) : Conc E.I w x (.oep b ks l i o) := by cases h with | conc _ _ h => exact h
theorem CV.inv_ep {ks : List CK} {l : List SV} {i o : Nat} (h : CV E m w x (.ep ks l i o)) : Conc E.I w x (.ep ks l i o) := by cases h with | conc _ _ h => exact h
end

mutual
theorem ckEq_eq : ∀ a b, ckEq a b = true → a = b
  | .int k, .int k', h => by simp only [ckEq, decide_eq_true_eq] at h; rw [h]
  | .bool, .bool, _ => rfl
  | .str, .str, _ => rfl
  | .flt, .flt, _ => rfl
  | .cpx, .cpx, _ => rfl
  | .int _, .flt, h => by simp [ckEq] at h
  | .int _, .cpx, h => by simp [ckEq] at h
  | .bool, .flt, h => by simp [ckEq] at h
  | .bool, .cpx, h => by simp [ckEq] at h
  | .str, .flt, h => by simp [ckEq] at h
  | .str, .cpx, h => by simp [ckEq] at h
  | .flt, .int _, h => by simp [ckEq] at h
  | .flt, .bool, h => by simp [ckEq] at h
  | .flt, .str, h => by simp [ckEq] at h
  | .flt, .cpx, h => by simp [ckEq] at h
  | .flt, .sl _, h => by simp [ckEq] at h
  | .flt, .other, h => by simp [ckEq] at h
  | .cpx, .int _, h => by simp [ckEq] at h
  | .cpx, .bool, h => by simp [ckEq] at h
  | .cpx, .str, h => by simp [ckEq] at h
  | .cpx, .flt, h => by simp [ckEq] at h
  | .cpx, .sl _, h => by simp [ckEq] at h
  | .cpx, .other, h => by simp [ckEq] at h
  | .sl _, .flt, h => by simp [ckEq] at h
  | .sl _, .cpx, h => by simp [ckEq] at h
  | .other, .flt, h => by simp [ckEq] at h
  | .other, .cpx, h => by simp [ckEq] at h
  | .other, .other, _ => rfl
  | .sl a, .sl b, h => by rw [cksEq_eq a b (by simpa [ckEq] using h)]
  | .int _, .bool, h => by simp [ckEq] at h
  | .int _, .str, h => by simp [ckEq] at h
  | .int _, .sl _, h => by simp [ckEq] at h
  | .int _, .other, h => by simp [ckEq] at h
  | .bool, .int _, h => by simp [ckEq] at h
  | .bool, .str, h => by simp [ckEq] at h
  | .bool, .sl _, h => by simp [ckEq] at h
  | .bool, .other, h => by simp [ckEq] at h
  | .str, .int _, h => by simp [ckEq] at h
  | .str, .bool, h => by simp [ckEq] at h
  | .str, .sl _, h => by simp [ckEq] at h
  | .str, .other, h => by simp [ckEq] at h
  | .sl _, .int _, h => by simp [ckEq] at h
  | .sl _, .bool, h => by simp [ckEq] at h
  | .sl _, .str, h => by simp [ckEq] at h
  | .sl _, .other, h => by simp [ckEq] at h
  | .other, .int _, h => by simp [ckEq] at h
  | .other, .bool, h => by simp [ckEq] at h
  | .other, .str, h => by simp [ckEq] at h
  | .other, .sl _, h => by simp [ckEq] at h
theorem cksEq_eq : ∀ a b, cksEq a b = true → a = b
  | [], [], _ => rfl
  | a :: r, b :: s, h => by
    simp only [cksEq, Bool.and_eq_true] at h
    rw [ckEq_eq a b h.1, cksEq_eq r s h.2]
  | [], _ :: _, h => by simp [cksEq] at h
  | _ :: _, [], h => by simp [cksEq] at h
end

/-- One cell. -/
theorem oneB_one {E : Env} {mm : List (Nat × Chunk)} {w : World} {x : Value} {v : SV} (hch : ∀ c, ChR E (lkO mm) w c (lkO mm c)) (h : CV E (lkO mm) w x v) (hb : oneB mm v = true) : x.cells = #[x] ∧ x.oneCell' = true := by
  cases h with
  | conc _ _ h =>
    cases h
    case oep b ks l i o q1 q2 =>
      cases b with
      | false => rw [q1 rfl]; exact ⟨rfl, rfl⟩
      | true => have q3 := q2 rfl; cases q3; exact ⟨rfl, rfl⟩
    all_goals first | exact ⟨rfl, rfl⟩ | (simp [oneB] at hb)
  | agg => simp [oneB] at hb
  | tup => simp [oneB] at hb
  | fn => exact ⟨rfl, rfl⟩
  | ptr => exact ⟨rfl, rfl⟩
  | ptx => exact ⟨rfl, rfl⟩
  | mpp => exact ⟨rfl, rfl⟩
  | itp => exact ⟨rfl, rfl⟩
  | rptr => simp [oneB] at hb
  | otl => simp [oneB] at hb
  | osl _ c ver v h1 h2 h3 =>
    simp only [oneB] at hb
    have hc := hch c
    cases hm : lkO mm c with
    | none => rw [hm] at hb; simp at hb
    | some ch =>
      rw [hm] at hb h1 hc
      cases ch with
      | box => simp at hb
      | gh => simp at hb
      | mp => simp at hb
      | it => simp at hb
      | row v' e ks l =>
        simp only [beqN, decide_eq_true_eq] at hb
        simp only [verOf, Option.some.injEq] at h1
        have e1 := h3 (by omega)
        obtain ⟨ad, cap, h⟩ := RowR.isSlice hc
        rw [e1, h]; exact ⟨rfl, rfl⟩
      | froz v' ks l =>
        simp only [beqN, decide_eq_true_eq] at hb
        simp only [verOf, Option.some.injEq] at h1
        have e1 := h3 (by omega)
        have hc' : Conc E.I w x (.sl ks l) := by rw [e1]; exact hc
        cases hc' with
        | sl0 => exact ⟨rfl, rfl⟩
        | sl => exact ⟨rfl, rfl⟩

theorem getD_one (x y : Value) (i : Nat) : (#[x] : Array Value).getD i y = if i = 0 then x else y := by
  cases i <;> simp

/-- A value's cells. -/
theorem cells_cv {E : Env} {mm : List (Nat × Chunk)} {w : World} {x : Value} {v : SV} (hch : ∀ c, ChR E (lkO mm) w c (lkO mm c)) (h : CV E (lkO mm) w x v) (hb : cellsB mm v = true) :
    x.cells.size = v.cells.length ∧ ∀ i, CV E (lkO mm) w (x.cells.getD i undef) (v.cells.getD i .any) := by
  by_cases hv : ∃ cs, v = .agg cs
  · obtain ⟨cs, rfl⟩ := hv
    obtain ⟨xs, rfl, h1, h2⟩ := h.inv_agg
    exact ⟨h1, h2⟩
  · have h1 : oneB mm v = true := by
      cases v <;> first | exact hb | (exact absurd ⟨_, rfl⟩ hv)
    have h2 : v.cells = [v] := by
      cases v <;> first | rfl | (exact absurd ⟨_, rfl⟩ hv)
    obtain ⟨h3, _⟩ := oneB_one hch h h1
    rw [h2, h3]
    refine ⟨rfl, fun i => ?_⟩
    rw [getD_one]
    cases i with
    | zero => simpa using h
    | succ i => simpa using CV.conc _ _ (Conc.any _)

theorem oneL_one {E : Env} {mm : List (Nat × Chunk)} {w : World} (hch : ∀ c, ChR E (lkO mm) w c (lkO mm c)) : ∀ (cs : List SV) (xs : List Value), xs.length = cs.length → oneL mm cs = true → (∀ i, CV E (lkO mm) w (xs.getD i undef) (cs.getD i .any)) → ∀ v ∈ xs, v.oneCell' = true
  | [], [], _, _, _ => fun v hv => by cases hv
  | c :: cs, x :: xs, hl, ho, h => by
    simp only [oneL, Bool.and_eq_true] at ho
    intro v hv
    rcases List.mem_cons.1 hv with rfl | hv
    · exact (oneB_one hch (by simpa using h 0) ho.1).2
    · exact oneL_one hch cs xs (by simpa using hl) ho.2 (fun i => by simpa using h (i + 1)) v hv
  | [], _ :: _, hl, _, _ => by simp at hl
  | _ :: _, [], hl, _, _ => by simp at hl

section
variable {cx : Cx} {P : Program} [Laid P] {B : Nat} {M I0 : Nat → Prop} {G : Nat → Value} {w0 : World} {E : Env} {s : St} {a : Act} {w : World} {o : Oper} {K : Act → World → Prop} {Q : Exit → Act → World → Prop}

theorem dOk_lt (hd : dOk cx o.dst = true) : ∀ k, o.dst = some k → k < cx.nt := by
  intro k hk
  rw [hk] at hd
  simpa [dOk, Nat.blt_eq] using hd

/-- A value, in the very world. -/
theorem op_val (h : Rel P cx.nt B M I0 G w0 E s a w) (hd : dOk cx o.dst = true) {x : Value} {v : SV} (hrun : (execOp a.eval o).run P w = .ok (.value x) w) (hx : CV E (lkO s.mem) w x v)
    (hK : ∀ E' a' w', Rel P cx.nt B M I0 G w0 E' (upd s o.dst v []) a' w' → K a' w') : Oper.wp P o a w K Q := by
  unfold Oper.wp
  rw [hrun]
  exact hK E _ w (h.val (dOk_lt hd) hx)

/-- What is shown of an operation. -/
def Sound (cx : Cx) (P : Program) [Laid P] (o : Oper) : Prop :=
  ∀ (B : Nat) (M I0 : Nat → Prop) (G : Nat → Value) (w0 : World) (E : Env) (s : St) (a : Act) (w : World) (K : Act → World → Prop) (Q : Exit → Act → World → Prop),
    Rel P cx.nt B M I0 G w0 E s a w → dOk cx o.dst = true → obH (opx cx s.mem (ev s.tm) o).ob →
    (∀ E' a' w', Rel P cx.nt B M I0 G w0 E' (upd s o.dst (opx cx s.mem (ev s.tm) o).v (opx cx s.mem (ev s.tm) o).ch) a' w' → K a' w') → Oper.wp P o a w K Q

theorem sound_move {y : Operand} (ho : o.op = .move y) : Sound cx P o := by
  intro B M I0 G w0 E s a w K Q h hd hob hK
  have e : opx cx s.mem (ev s.tm) o = .val (ev s.tm y) := by simp [opx, ho, opE]
  rw [e] at hK
  exact op_val h hd (x := a.eval y) (by simp [execOp, ho]) (h.eval y) hK

theorem sound_assign {y : Operand} (ho : o.op = .assign y) : Sound cx P o := by
  intro B M I0 G w0 E s a w K Q h hd hob hK
  have e : opx cx s.mem (ev s.tm) o = .val (ev s.tm y) := by simp [opx, ho, opE]
  rw [e] at hK
  exact op_val h hd (x := a.eval y) (by simp [execOp, ho]) (h.eval y) hK

theorem bOf_cv {m : Nat → Option Chunk} {x : Value} {v : SV} {p : Bool} (h : CV E m w x v) (hb : bOf v = some p) : x = .bool p := by
  cases v <;> simp only [bOf] at hb <;> first | (cases hb; done) | skip
  · cases hb; exact h.inv_bool
  · cases hb; exact h.inv_tt
  · cases hb; exact h.inv_ff

theorem sound_pick {c x y : Operand} (ho : o.op = .pick c x y) : Sound cx P o := by
  intro B M I0 G w0 E s a w K Q h hd hob hK
  have e : opx cx s.mem (ev s.tm) o = opE cx s.mem (ev s.tm) o.dst (.pick c x y) := by simp [opx, ho]
  rw [e] at hob hK
  simp only [opE] at hob hK
  have hc := h.eval c
  split at hob
  · rename_i ht; rw [ht] at hc hK
    exact op_val h hd (x := a.eval x) (by simp [execOp, ho, hc.inv_tt, asBool]) (h.eval x) hK
  · rename_i ht; rw [ht] at hc hK
    exact op_val h hd (x := a.eval y) (by simp [execOp, ho, hc.inv_ff, asBool]) (h.eval y) hK
  · rename_i b ht
    rw [ht] at hc hK
    cases hp : bOf (ev s.tm x) with
    | none => simp only [hp] at hob; exact hob.elim
    | some p =>
      cases hq : bOf (ev s.tm y) with
      | none => simp only [hp, hq] at hob; exact hob.elim
      | some q =>
        simp only [hp, hq] at hK
        have h1 := bOf_cv (h.eval x) hp
        have h2 := bOf_cv (h.eval y) hq
        refine op_val h hd (x := .bool (cond b p q)) ?_ (.conc _ _ (.bool _)) hK
        cases b <;> simp [execOp, ho, hc.inv_bool, asBool, h1, h2]
  · exact hob.elim

theorem tyRun (hP : CxOk P cx) {t : Nat} {L : TyL} (ht : tyOf cx t = some L) : TyOk P t L := hP.ty t L ht

theorem run_info {t : Nat} {inf : TypeInfo} (h : P.info? t = some inf) (w : World) : (typeInfo t).run P w = .ok inf w := by
  simp [typeInfo, h]
theorem run_size {t : Nat} {inf : TypeInfo} (h : P.info? t = some inf) (w : World) : (sizeOf t).run P w = .ok inf.size w := by
  simp [sizeOf, run_info h]
theorem run_zero {t : Nat} {inf : TypeInfo} {z : Value} (h : P.info? t = some inf) (hz : inf.zero = some z) (w : World) : (zeroValue t).run P w = .ok z w := by
  simp [zeroValue, run_info h, hz]
theorem run_newRow' (e : Nat) (cells : Array Value) (w : World) : (newRow e cells).run P w = .ok ⟨w.heap.size, 0, none⟩ (w.alloc (.cells cells e)) := by
  simp [newRow]

/-- A new variable. -/
theorem op_box (h : Rel P cx.nt B M I0 G w0 E s a w) (hd : dOk cx o.dst = true) {d kk t : Nat} (hdst : o.dst = some d) (hfree : lkO s.mem kk = none) {xs : Array Value} {cs : List SV}
    (hrun : (execOp a.eval o).run P w = .ok (.value (.pointer (some ⟨w.heap.size, 0, none⟩))) (w.alloc (.cells xs t))) (hs : xs.size = cs.length) (hx : ∀ i, CV E (lkO s.mem) w (xs.getD i undef) (cs.getD i .any))
    (hK : ∀ E' a' w', Rel P cx.nt B M I0 G w0 E' (upd s o.dst (.ptr kk 0) [(kk, .box t cs)]) a' w' → K a' w') : Oper.wp P o a w K Q := by
  unfold Oper.wp
  rw [hrun]
  refine hK (E.withBlock kk w.heap.size (.pointer (some ⟨w.heap.size, 0, none⟩))) _ _ ?_
  rw [hdst]
  refine h.alloc (dOk_lt hd d hdst) hfree rfl fun E' hE' hm => ?_
  have hl : lkO ([(kk, Chunk.box t cs)] ++ s.mem) kk = some (.box t cs) := by rw [List.singleton_append, lkO_cons, if_pos rfl]
  exact ⟨.ptr kk 0 w.heap.size t cs hl (by rw [hE']; simp [Env.withBlock]), w.heap.size, xs, by rw [hE']; simp [Env.withBlock], heap_new w _, hs, fun i => hm _ _ (hx i)⟩

theorem sound_alloc (hP : CxOk P cx) {t : Nat} (ho : o.op = .alloc t) : Sound cx P o := by
  intro B M I0 G w0 E s a w K Q h hd hob hK
  have e : opx cx s.mem (ev s.tm) o = opE cx s.mem (ev s.tm) o.dst (.alloc t) := by simp [opx, ho]
  rw [e] at hob hK
  simp only [opE] at hob hK
  split at hob
  · rename_i d L hdst ht
    rw [ht] at hK
    split at hob
    · rename_i hfree
      simp only [hdst, hfree] at hK
      obtain ⟨inf, z, h1, h2, h3, h4, h5, h6, h7⟩ := (tyRun hP ht).info
      exact op_box (t := t) h hd (xs := z.cells) (cs := L.zero) hdst hfree (by simp [execOp, ho, Instr.alloc, run_zero h1 h4, newVar, run_newRow']) (by omega) (fun i => .conc _ _ (h7 _ _ i)) (by rw [hdst]; exact hK)
    · exact hob.elim
  · exact hob.elim

theorem sound_box {t : Nat} {y : Operand} (ho : o.op = .box t y) : Sound cx P o := by
  intro B M I0 G w0 E s a w K Q h hd hob hK
  have e : opx cx s.mem (ev s.tm) o = opE cx s.mem (ev s.tm) o.dst (.box t y) := by simp [opx, ho]
  rw [e] at hob hK
  simp only [opE] at hob hK
  split at hob
  · rename_i d hdst
    simp only [hdst] at hK
    split at hob
    · rename_i hfree hc
      simp only [hfree, hc] at hK
      obtain ⟨h1, h2⟩ := cells_cv h.ch (h.eval y) hc
      exact op_box (t := t) h hd (xs := (a.eval y).cells) (cs := (ev s.tm y).cells) hdst hfree (by simp [execOp, ho, Instr.box, newVar, run_newRow']) h1 h2 (by rw [hdst]; exact hK)
    · exact hob.elim
  · exact hob.elim
end
end Go.Rx

/- The framework, part 6: loads and stores, addresses, arithmetic. -/
namespace Go.Rx
set_option linter.unusedSectionVars false
open Go.RowKit

section
variable {cx : Cx} {P : Program} [Laid P] {B : Nat} {M I0 : Nat → Prop} {G : Nat → Value} {w0 : World} {E : Env} {s : St} {a : Act} {w : World} {o : Oper} {K : Act → World → Prop} {Q : Exit → Act → World → Prop}

theorem addr_add (b off n : Nat) : (⟨b, off, none⟩ : Addr).add n = ⟨b, off + n, none⟩ := by
  unfold Addr.add
  split <;> simp_all

theorem TkOk_agg {d : TypeDesc} {k : TK} (h : TkOk P d k) : (d matches .struct _ | .array _ _) = k.agg := by
  cases d <;> cases k <;> first | rfl | exact h.elim

theorem run_isAgg {t : Nat} {L : TyL} (h : TyOk P t L) (w : World) : (isAgg t).run P w = .ok L.k.agg w := by
  obtain ⟨d, h1, h2⟩ := h.desc
  have := TkOk_agg h2
  unfold isAgg
  rw [Sem.run_bind, run_underlying h1, Result.andThen_ok]
  cases d <;> cases hk : L.k <;> rw [hk] at h2 <;> first | rfl | exact h2.elim

/-- What a variable of a type holds. -/
theorem run_loadVar' {t : Nat} {L : TyL} (h : TyOk P t L) (b off : Nat) (f : Nat → Value) (hc : ∀ j, j < L.ks.length → w.cell? ⟨b, off + j, none⟩ = some (f j)) :
    (loadVar t ⟨b, off, none⟩).run P w = .ok (match L.k.agg with | true => .agg ((List.range L.ks.length).map f).toArray | false => f 0) w := by
  obtain ⟨inf, z, h1, h2, _⟩ := h.info
  unfold loadVar
  rw [Sem.run_bind, run_isAgg h, Result.andThen_ok]
  cases hk : L.k.agg with
  | true =>
    have hl := run_loadCells (P := P) w ⟨b, off, none⟩ L.ks.length f (fun j hj => by rw [addr_add]; exact hc j hj)
    simp [run_size h1, h2, hl]
  | false =>
    have h3 := h.one hk
    have h4 := hc 0 (by omega)
    simp only [Nat.add_zero] at h4
    simp [h4]

theorem range_getD (n : Nat) (f : Nat → Value) (j : Nat) : (((List.range n).map f).toArray).getD j undef = if j < n then f j else undef := by
  simp only [Array.getD_eq_getD_getElem?, List.getElem?_toArray, List.getElem?_map]
  by_cases h : j < n
  · simp [h]
  · rw [List.getElem?_eq_none (by simpa using h)]
    simp [h]

theorem getD_take_drop (cs : List SV) (off n j : Nat) : ((cs.drop off).take n).getD j .any = if j < n then cs.getD (off + j) .any else .any := by
  simp only [List.getD_eq_getElem?_getD, List.getElem?_take, List.getElem?_drop]
  split <;> rfl

/-- The box that a pointer leads to. -/
theorem Rel.boxAt (h : Rel P cx.nt B M I0 G w0 E s a w) {c b t : Nat} {cs : List SV} (hm : lkO s.mem c = some (.box t cs)) (hl : E.loc c = some b) :
    ∃ xs, w.heap[b]? = some (.cells xs t (0, 0)) ∧ xs.size = cs.length ∧ ∀ i, CV E (lkO s.mem) w (xs.getD i undef) (cs.getD i .any) := by
  have hc := h.ch c
  rw [hm] at hc
  obtain ⟨b', xs, h1, h2, h3, h4⟩ := hc
  rw [hl] at h1
  cases h1
  exact ⟨xs, h2, h3, h4⟩

theorem cell_of_heap {b t : Nat} {xs : Array Value} {m : Nat × Nat} (h : w.heap[b]? = some (.cells xs t m)) {j : Nat} (hj : j < xs.size) : w.cell? ⟨b, j, none⟩ = some (xs.getD j undef) := by
  simp [World.cell?, h, hj]

theorem mkCells_getD : ∀ (ks : List CK) (f : Nat → SV) (j0 j : Nat), j < ks.length → (mkCells ks f j0).getD j .any = coerce (ks.getD j .other) (f (j0 + j))
  | [], _, _, _, h => by simp at h
  | k :: r, f, j0, 0, _ => by simp [mkCells]
  | k :: r, f, j0, j + 1, h => by
    have := mkCells_getD r f (j0 + 1) j (by simpa using h)
    simp only [mkCells, List.getD_cons_succ, this]
    congr 2
    omega
theorem mkCells_length : ∀ (ks : List CK) (f : Nat → SV) (j0 : Nat), (mkCells ks f j0).length = ks.length
  | [], _, _ => rfl
  | _ :: r, f, j0 => by simp [mkCells, mkCells_length r f (j0 + 1)]

theorem Conc.coerce {I : Nat → Prop} {x : Value} {v : SV} {k : CK} (h : Conc I w x v) (hk : kOk k v) : Conc I w x (coerce k v) := by
  cases k with
  | int k => obtain ⟨n, rfl⟩ := hk; exact h
  | bool => rcases hk with rfl | rfl | ⟨b, rfl⟩ <;> cases h <;> exact .bool _
  | str => obtain ⟨s, rfl⟩ := hk; exact h
  | flt => obtain ⟨s, rfl⟩ := hk; exact h
  | cpx => obtain ⟨s, t, rfl⟩ := hk; exact h
  | sl ks => rcases hk with rfl | ⟨l, rfl⟩
             · cases h; exact .sl0 none 0 ks
             · exact h
  | other => exact h
theorem CV.coerce {m : Nat → Option Chunk} {x : Value} {v : SV} {k : CK} (h : CV E m w x v) (hk : kOk k v) : CV E m w x (coerce k v) := by
  cases k with
  | int k => obtain ⟨n, rfl⟩ := hk; exact h
  | bool => rcases hk with rfl | rfl | ⟨b, rfl⟩ <;> cases h <;> rename_i h <;> cases h <;> exact .conc _ _ (.bool _)
  | str => obtain ⟨s, rfl⟩ := hk; exact h
  | flt => obtain ⟨s, rfl⟩ := hk; exact h
  | cpx => obtain ⟨s, t, rfl⟩ := hk; exact h
  | sl ks => rcases hk with rfl | ⟨l, rfl⟩
             · cases h with | conc _ _ h => cases h; exact .conc _ _ (.sl0 none 0 ks)
             · exact h
  | other => exact h

/-- A load off cells that are known one by one. -/
theorem ldBy_cv {t : Nat} {L : TyL} (hL : TyOk P t L) {m : Nat → Option Chunk} {f : Nat → Value} {g : Nat → SV} (h : ∀ j, j < L.ks.length → CV E m w (f j) (g j)) (hk : ksOk L.ks g) :
    CV E m w (match L.k.agg with | true => .agg ((List.range L.ks.length).map f).toArray | false => f 0) (ldBy L g) := by
  unfold ldBy
  cases hk' : L.k.agg with
  | true =>
    refine .agg _ _ (by simp [mkCells_length]) fun i => ?_
    rw [range_getD]
    by_cases hi : i < L.ks.length
    · rw [if_pos hi, mkCells_getD _ _ _ _ hi, Nat.zero_add]
      exact (h i hi).coerce (hk i hi)
    · rw [List.getD_eq_getElem?_getD, List.getElem?_eq_none (by rw [mkCells_length]; omega)]
      exact .conc _ _ (.any _)
  | false =>
    have h1 := hL.one hk'
    have h2 := hk 0 (by omega)
    have h3 : L.ks.headD .other = L.ks.getD 0 .other := by cases L.ks <;> rfl
    show CV E m w (f 0) (Go.Rx.coerce (L.ks.headD .other) (g 0))
    rw [h3]
    exact (h 0 (by omega)).coerce h2

theorem ldAt_cv {t : Nat} {L : TyL} (hL : TyOk P t L) {m : Nat → Option Chunk} {f : Nat → Value} {cs : List SV} {off : Nat} (hn : off + L.ks.length ≤ cs.length) (h : ∀ j, j < L.ks.length → CV E m w (f j) (cs.getD (off + j) .any)) :
    CV E m w (match L.k.agg with | true => .agg ((List.range L.ks.length).map f).toArray | false => f 0) (ldAt L cs off) := by
  unfold ldAt
  cases hk : L.k.agg with
  | true =>
    refine .agg _ _ (by simp; omega) fun i => ?_
    rw [range_getD, getD_take_drop]
    by_cases hi : i < L.ks.length
    · rw [if_pos hi, if_pos hi]; exact h i hi
    · rw [if_neg hi, if_neg hi]; exact .conc _ _ (.any _)
  | false =>
    have h1 := hL.one hk
    exact h 0 (by omega)

/-- The cells behind a pointer into a slice that nobody writes. -/
theorem ep_cells {I : Nat → Prop} {x : Value} {ks : List CK} {l : List SV} {i o : Nat} (h : Conc I w x (.ep ks l i o)) : ∃ b off, x = .pointer (some ⟨b, off + o, none⟩) ∧ (∀ e, e ∈ l → shOk ks e) ∧ i < l.length ∧
    ∃ f : Nat → Value, ∀ j, j < ks.length → w.cell? ⟨b, off + j, none⟩ = some (f j) ∧ Conc I w (f j) (elCell l i j) := by
  cases h with
  | ep b off _ _ _ _ x hb hi hsh hx hc => exact ⟨b, off + i * ks.length, rfl, hsh, hi, x i, fun j hj => ⟨hx i j hi hj, hc i j hi hj⟩⟩

theorem shOk_get {ks : List CK} {l : List SV} (h : ∀ e, e ∈ l → shOk ks e) {i j : Nat} (hi : i < l.length) (hj : j < ks.length) : kOk (ks.getD j .other) (elCell l i j) := by
  have h1 := h l[i] (List.getElem_mem hi)
  have h2 := h1.2 j hj
  unfold elCell
  rw [List.getD_eq_getElem?_getD (l := l), List.getElem?_eq_getElem hi]
  exact h2

theorem sound_load (hP : CxOk P cx) {t : Nat} {y : Operand} (ho : o.op = .load t y) : Sound cx P o := by
  intro B M I0 G w0 E s a w K Q h hd hob hK
  have e : opx cx s.mem (ev s.tm) o = opE cx s.mem (ev s.tm) o.dst (.load t y) := by simp [opx, ho]
  rw [e] at hob hK
  simp only [opE] at hob hK
  have hy := h.eval y
  cases ht : tyOf cx t with
  | none => rw [ht] at hob; exact hob.elim
  | some L =>
    have hL := tyRun hP ht
    simp only [ht] at hob hK
    cases hv : ev s.tm y with
    | ptr c off =>
      rw [hv] at hy
      simp only [hv] at hob hK
      obtain ⟨b, bt, cs, e1, hm, hl⟩ := hy.inv_ptr
      simp only [hm] at hob hK
      cases hb : Nat.ble (off + L.ks.length) cs.length with
      | false => simp only [hb] at hob; exact hob.elim
      | true =>
        simp only [hb] at hK
        obtain ⟨xs, h1, h2, h3⟩ := h.boxAt hm hl
        have hn := Nat.le_of_ble_eq_true hb
        refine op_val h hd ?_ (ldAt_cv (f := fun j => xs.getD (off + j) undef) hL hn (fun j _ => h3 (off + j))) hK
        simp only [execOp, ho, Instr.loadAt, e1, Instr.sureAddr, Sem.run_bind, Sem.run_pure, Result.andThen_ok]
        rw [run_loadVar' hL b off (fun j => xs.getD (off + j) undef) (fun j hj => cell_of_heap h1 (by omega))]
        rfl
    | ptx c off =>
      rw [hv] at hy
      simp only [hv] at hob hK
      obtain ⟨b, bt, cs, e1, hm, hl⟩ := hy.inv_ptx
      simp only [hm] at hob hK
      obtain ⟨⟨hn, hk⟩⟩ := hob
      obtain ⟨xs, h1, h2, h3⟩ := h.boxAt hm hl
      refine op_val h hd ?_ (ldBy_cv (f := fun j => xs.getD (off + j) undef) hL (fun j _ => h3 (off + j)) hk) hK
      simp only [execOp, ho, Instr.loadAt, e1, Instr.sureAddr, Sem.run_bind, Sem.run_pure, Result.andThen_ok]
      rw [run_loadVar' hL b off (fun j => xs.getD (off + j) undef) (fun j hj => cell_of_heap h1 (by omega))]
      rfl
    | ep ks l i off =>
      rw [hv] at hy
      simp only [hv] at hob hK
      cases hq : cksEq ((ks.drop off).take L.ks.length) L.ks with
      | false => simp only [hq] at hob; exact hob.elim
      | true =>
        simp only [hq] at hK
        have hq' := cksEq_eq _ _ hq
        have hlen : L.ks.length ≤ ks.length - off := by
          have := congrArg List.length hq'
          simp only [List.length_take, List.length_drop] at this
          omega
        obtain ⟨b, o', e1, hsh, hi, f, hf⟩ := ep_cells hy.inv_ep
        have hlt : ∀ j, j < L.ks.length → off + j < ks.length := fun j hj => by omega
        refine op_val h hd ?_ (ldBy_cv (f := fun j => f (off + j)) hL (fun j hj => .conc _ _ (hf (off + j) (hlt j hj)).2) (fun j hj => ?_)) hK
        · simp only [execOp, ho, Instr.loadAt, e1, Instr.sureAddr, Sem.run_bind, Sem.run_pure, Result.andThen_ok]
          rw [run_loadVar' hL b (o' + off) (fun j => f (off + j)) (fun j hj => by rw [Nat.add_assoc]; exact (hf (off + j) (hlt j hj)).1)]
          rfl
        · have h4 := shOk_get hsh hi (hlt j hj)
          have h5 : L.ks.getD j .other = ks.getD (off + j) .other := by
            rw [← hq']
            simp only [List.getD_eq_getElem?_getD, List.getElem?_take, List.getElem?_drop, if_pos hj]
          rw [h5]; exact h4
    | rptr c sz i off ver =>
      rw [hv] at hy
      simp only [hv] at hob hK
      cases hm : lkO s.mem c with
      | none => simp only [hm] at hob; exact hob.elim
      | some ch =>
        cases ch with
        | gh => simp only [hm] at hob; exact hob.elim
        | mp => simp only [hm] at hob; exact hob.elim
        | it => simp only [hm] at hob; exact hob.elim
        | row v e ks l =>
          simp only [hm] at hob hK
          cases hq : (Nat.beq v ver && Nat.beq sz ks.length && cksEq ((ks.drop off).take L.ks.length) L.ks) with
          | false => simp only [hq] at hob; exact hob.elim
          | true =>
            simp only [hq] at hob hK
            simp only [Bool.and_eq_true] at hq
            obtain ⟨⟨q1, q2⟩, q3⟩ := hq
            have q1 := Nat.eq_of_beq_eq_true q1
            have q2 := Nat.eq_of_beq_eq_true q2
            have hq' := cksEq_eq _ _ q3
            obtain ⟨hi⟩ := hob
            have hlen : L.ks.length ≤ ks.length - off := by
              have := congrArg List.length hq'
              simp only [List.length_take, List.length_drop] at this
              omega
            have hrow : RowR E w c e ks l := by have := h.ch c; rw [hm] at this; exact this
            obtain ⟨g, cap, hl, _, f, hf⟩ := hrow.cells (by omega)
            obtain ⟨v', e1, e2, e3⟩ := hy.inv_rptr
            rw [hm] at e1
            simp only [verOf, Option.some.injEq] at e1
            have e4 := e3 (by omega) g hl
            have hlt : ∀ j, j < L.ks.length → off + j < ks.length := fun j hj => by omega
            refine op_val h hd ?_ (ldBy_cv (f := fun j => f i (off + j)) hL (fun j hj => .conc _ _ (hf i (off + j) hi (hlt j hj)).2) (fun j hj => ?_)) hK
            · simp only [execOp, ho, Instr.loadAt, e4, Instr.sureAddr, Sem.run_bind, Sem.run_pure, Result.andThen_ok]
              rw [run_loadVar' hL g (i * sz + off) (fun j => f i (off + j)) (fun j hj => by rw [q2, Nat.add_assoc]; exact (hf i (off + j) hi (hlt j hj)).1)]
              rfl
            · have h4 := shOk_get hrow.1 hi (hlt j hj)
              have h5 : L.ks.getD j .other = ks.getD (off + j) .other := by
                rw [← hq']
                simp only [List.getD_eq_getElem?_getD, List.getElem?_take, List.getElem?_drop, if_pos hj]
              rw [h5]; exact h4
        | box => simp only [hm] at hob; exact hob.elim
        | froz => simp only [hm] at hob; exact hob.elim
    | _ => simp only [hv] at hob; exact hob.elim
end
end Go.Rx

/- The framework, part 7: stores, addresses, arithmetic, comparisons. -/
namespace Go.Rx
set_option linter.unusedSectionVars false
open Go.RowKit

section
variable {cx : Cx} {P : Program} [Laid P] {B : Nat} {M I0 : Nat → Prop} {G : Nat → Value} {w0 : World} {E : Env} {s : St} {a : Act} {w : World} {o : Oper} {K : Act → World → Prop} {Q : Exit → Act → World → Prop}

theorem setL_length : ∀ (vs cs : List SV) (off : Nat), (setL cs off vs).length = cs.length
  | [], _, _ => rfl
  | v :: r, cs, off => by simp [setL, setL_length r]
theorem setL_getD : ∀ (vs cs : List SV) (off i : Nat), off + vs.length ≤ cs.length → (setL cs off vs).getD i .any = if off ≤ i ∧ i < off + vs.length then vs.getD (i - off) .any else cs.getD i .any
  | [], cs, off, i, _ => by simp only [setL, List.length_nil]; rw [if_neg (by omega)]
  | v :: r, cs, off, i, h => by
    simp only [List.length_cons] at h
    rw [setL, setL_getD r _ _ _ (by simp; omega)]
    by_cases h1 : i = off
    · subst h1
      rw [if_neg (by omega), if_pos (by simp)]
      simp only [List.getD_eq_getElem?_getD, List.getElem?_set]
      have : i < cs.length := by omega
      simp [this]
    · by_cases h2 : off + 1 ≤ i ∧ i < off + 1 + r.length
      · rw [if_pos h2, if_pos (by simp; omega)]
        have : i - off = (i - (off + 1)) + 1 := by omega
        rw [this, List.getD_cons_succ]
      · rw [if_neg h2, if_neg (by simp; omega)]
        simp only [List.getD_eq_getElem?_getD, List.getElem?_set]
        rw [if_neg (by omega)]

/-- Memory of the function's own is written. -/
theorem Rel.store (h : Rel P cx.nt B M I0 G w0 E s a w) {c b t : Nat} {cs : List SV} (hro : roK c = false) (hm : lkO s.mem c = some (.box t cs)) (hl : E.loc c = some b) {xs : Array Value} {cs' : List SV} (hs : xs.size = cs'.length)
    (hx : ∀ i, CV E (lkO s.mem) w (xs.getD i undef) (cs'.getD i .any)) {d : Option Nat} (hd : ∀ k, d = some k → k < cx.nt) {x : Value} {v : SV} (hv : CV E (lkO s.mem) w x v) {w' : World}
    (hb : w'.heap[b]? = some (.cells xs t (0, 0))) (ho : ∀ k, k ≠ b → w'.heap[k]? = w.heap[k]?) (hsz : w'.heap.size = w.heap.size) (hos : w'.os = w.os ∧ w'.tape = w.tape ∧ w'.output = w.output) :
    Rel P cx.nt B M I0 G w0 E (upd s d v [(c, .box t cs')]) (a.put d x) w' := by
  obtain ⟨hbs, hbI, hbM⟩ := h.loc c b hl
  have hlk : ∀ k, lkO ([(c, Chunk.box t cs')] ++ s.mem) k = if c = k then some (.box t cs') else lkO s.mem k := fun k => by rw [List.singleton_append, lkO_cons]
  have hI : ∀ k, E.I k → w'.heap[k]? = w.heap[k]? := fun k hk => ho k (fun e => hbI (e ▸ hk))
  have hmm : ∀ y u, CV E (lkO s.mem) w y u → CV E (lkO ([(c, Chunk.box t cs')] ++ s.mem)) w' y u := fun y u hy => by
    refine CV.mono (E := E) (m := lkO s.mem) (w := w) (fun _ h => h) hI (fun k t' cs0 b' h1 h2 => ⟨?_, h2⟩) (hq_of fun k b' h1 h2 => ⟨?_, h2⟩) (fun k v' h1 => ?_) hy
    · rw [hlk]
      by_cases e : c = k
      · rw [if_pos e]; exact ⟨t, cs', rfl⟩
      · rw [if_neg e]; exact ⟨t', cs0, h1⟩
    · have hk : ¬ c = k := fun e => by subst e; exact isPt_box h1 hm
      rw [hlk, if_neg hk]
    · have hk : ¬ c = k := fun e => by subst e; rw [hm] at h1; simp [verOf] at h1
      exact ⟨v', by rw [hlk, if_neg hk]; exact h1, Nat.le_refl _, fun _ => ⟨rfl, fun _ h => h⟩⟩
  refine h.next hd ⟨hos.1, hos.2.1, hos.2.2, by omega, fun k hk hM => ho k (fun e => ?_)⟩ (fun _ h => h) (fun k hk => ⟨by have := (h.inew k hk).1; omega, (h.inew k hk).2⟩)
    (fun k b' hk => ?_) h.inj hmm (hmm _ _ hv) (fun k => ?_)
  · subst e
    rcases hbM with h1 | h1 | ⟨h1, _⟩
    · omega
    · exact hM h1
    · rw [hro] at h1; cases h1
  · obtain ⟨k1, k2, k3⟩ := h.loc k b' hk
    refine ⟨by omega, k2, ?_⟩
    rw [hlk]
    by_cases e : c = k
    · rw [if_pos e]
      subst e
      rcases k3 with k3 | k3 | k3
      · exact .inl k3
      · exact .inr (.inl k3)
      · exact .inr (.inr ⟨k3.1, rfl⟩)
    · rw [if_neg e]; exact k3
  · rw [hlk]
    by_cases e : c = k
    · subst e
      rw [if_pos rfl]
      exact ⟨b, xs, hl, hb, hs, fun i => hmm _ _ (hx i)⟩
    · rw [if_neg e]
      exact ChR.mono (E := E) (m := lkO s.mem) (w := w) (fun _ h => h) hI hmm rfl rfl (fun b' hb' => ho b' (fun e' => e (h.inj c k b hl (e' ▸ hb')))) (h.ch k)

theorem setRow_other (w : World) (g : Nat) (cs : Array Value) (k : Nat) (h : k ≠ g) : (w.setRow g cs).heap[k]? = w.heap[k]? := by
  simp only [World.setRow, Array.getElem?_modify]
  rw [if_neg (fun e => h e.symm)]

theorem storeRow_getD (xs ys : Array Value) (off i : Nat) (h : off + ys.size ≤ xs.size) :
    ((xs.toList.take off ++ ys.toList ++ xs.toList.drop (off + ys.size)).toArray).getD i undef = if off ≤ i ∧ i < off + ys.size then ys.getD (i - off) undef else xs.getD i undef := by
  simp only [Array.getD_eq_getD_getElem?, List.getElem?_toArray, List.getElem?_append, List.length_append, List.length_take, Array.length_toList, List.getElem?_take, List.getElem?_drop, Array.getElem?_toList]
  by_cases h1 : i < off
  · have e1 : i < min off xs.size + ys.size := by omega
    have e2 : i < min off xs.size := by omega
    have e3 : ¬ (off ≤ i ∧ i < off + ys.size) := by omega
    rw [if_pos e1, if_pos e2, if_pos h1, if_neg e3]
  · by_cases h2 : i < off + ys.size
    · have e1 : i < min off xs.size + ys.size := by omega
      have e2 : ¬ i < min off xs.size := by omega
      have e3 : off ≤ i ∧ i < off + ys.size := by omega
      rw [if_pos e1, if_neg e2, if_pos e3]
      have : min off xs.size = off := by omega
      rw [this]
    · have e1 : ¬ i < min off xs.size + ys.size := by omega
      have e3 : ¬ (off ≤ i ∧ i < off + ys.size) := by omega
      rw [if_neg e1, if_neg e3]
      have : off + ys.size + (i - (min off xs.size + ys.size)) = i := by omega
      rw [this]

theorem set_getD {l : List SV} {i j : Nat} (hj : j < l.length) {x : SV} : (l.set i x).getD j .any = if i = j then x else l.getD j .any := by
  rw [List.getD_eq_getElem?_getD, List.getElem?_set]
  by_cases e : i = j
  · subst e; rw [if_pos rfl, if_pos hj, if_pos rfl]; rfl
  · rw [if_neg e, if_neg e, ← List.getD_eq_getElem?_getD]

theorem kB_ok7 {k : CK} {v : SV} (h : kB k v = true) : kOk k v ∧ closed v = true ∧ v.cells = [v] := by
  cases k <;> cases v <;> simp only [kB, reduceCtorEq, decide_eq_true_eq] at h
  · subst h; exact ⟨⟨_, rfl⟩, rfl, rfl⟩
  · exact ⟨.inr (.inr ⟨_, rfl⟩), rfl, rfl⟩
  · exact ⟨.inl rfl, rfl, rfl⟩
  · exact ⟨.inr (.inl rfl), rfl, rfl⟩
  · exact ⟨⟨_, rfl⟩, rfl, rfl⟩
  · exact ⟨⟨_, rfl⟩, rfl, rfl⟩
  · exact ⟨⟨_, _, rfl⟩, rfl, rfl⟩
  · rw [← cksEq_eq _ _ h]; exact ⟨.inr ⟨_, rfl⟩, rfl, rfl⟩
  · exact ⟨.inl rfl, rfl, rfl⟩

theorem kBs_get7 : ∀ {ks : List CK} {cs : List SV}, kBs ks cs = true → cs.length = ks.length ∧ ∀ j, j < ks.length → kB (ks.getD j .other) (cs.getD j .any) = true
  | [], [], _ => ⟨rfl, fun j hj => by simp at hj⟩
  | k :: ks, v :: cs, h => by
    simp only [kBs, Bool.and_eq_true] at h
    obtain ⟨h1, h2⟩ := kBs_get7 h.2
    refine ⟨by simp [h1], fun j hj => ?_⟩
    cases j with
    | zero => exact h.1
    | succ j => simpa using h2 j (by simpa using hj)
  | [], _ :: _, h => by cases h
  | _ :: _, [], h => by cases h

theorem stEl_cells {sz : Nat} {e : SV} {off : Nat} {vs : List SV} (he : e.cells.length = sz) (ho : off + vs.length ≤ sz) (h0 : 0 < vs.length) (hv : ∀ j, j < vs.length → (vs.getD j .any).cells = [vs.getD j .any]) : (stEl sz e off vs).cells = setL e.cells off vs := by
  unfold stEl
  split
  · rename_i h1
    have h1 := Nat.eq_of_beq_eq_true h1
    subst h1
    have o0 : off = 0 := by omega
    subst o0
    match vs, h0, ho, hv with
    | [v], _, _, hv =>
      have := hv 0 (by simp)
      rw [this]
      obtain ⟨u, hu⟩ := List.length_eq_one_iff.1 he
      rw [hu]; rfl
  · rfl

/-- A row of the function's own is written. -/
theorem Rel.storeRow (h : Rel P cx.nt B M I0 G w0 E s a w) {c g e v : Nat} {ks : List CK} {l l' : List SV} (hm : lkO s.mem c = some (.row v e ks l)) (hl : E.loc c = some g) {w' : World}
    (ho : ∀ k, k ≠ g → w'.heap[k]? = w.heap[k]?) (hsz : w'.heap.size = w.heap.size) (hos : w'.os = w.os ∧ w'.tape = w.tape ∧ w'.output = w.output) (hrow : RowR E w' c e ks l')
    {d : Option Nat} (hd : ∀ k, d = some k → k < cx.nt) {x : Value} {u : SV} (hu : CV E (lkO s.mem) w x u) :
    Rel P cx.nt B M I0 G w0 E (upd s d u [(c, .row v e ks l')]) (a.put d x) w' := by
  obtain ⟨hbs, hbI, hbM⟩ := h.loc c g hl
  have hB : B ≤ g ∨ M g := by
    rcases hbM with h1 | h1 | ⟨_, h1⟩
    · exact .inl h1
    · exact .inr h1
    · rw [hm] at h1; simp [verOf] at h1
  have hlk : ∀ k, lkO ([(c, Chunk.row v e ks l')] ++ s.mem) k = if c = k then some (.row v e ks l') else lkO s.mem k := fun k => by rw [List.singleton_append, lkO_cons]
  have hI : ∀ k, E.I k → w'.heap[k]? = w.heap[k]? := fun k hk => ho k (fun e => hbI (e ▸ hk))
  have hmm : ∀ y u, CV E (lkO s.mem) w y u → CV E (lkO ([(c, Chunk.row v e ks l')] ++ s.mem)) w' y u := fun y u hy => by
    refine CV.mono (E := E) (m := lkO s.mem) (w := w) (fun _ h => h) hI (fun k t' cs0 b' h1 h2 => ⟨?_, h2⟩) (hq_of fun k b' h1 h2 => ⟨?_, h2⟩) (fun k v' h1 => ?_) hy
    · have hk : ¬ c = k := fun e => by subst e; rw [hm] at h1; cases h1
      exact ⟨t', cs0, by rw [hlk, if_neg hk]; exact h1⟩
    · have hk : ¬ c = k := fun e => by subst e; exact isPt_row h1 hm
      rw [hlk, if_neg hk]
    · by_cases e : c = k
      · subst e
        rw [hm] at h1
        simp only [verOf, Option.some.injEq] at h1
        subst h1
        exact ⟨v, by rw [hlk, if_pos rfl]; rfl, Nat.le_refl _, fun _ => ⟨rfl, fun _ h => h⟩⟩
      · exact ⟨v', by rw [hlk, if_neg e]; exact h1, Nat.le_refl _, fun _ => ⟨rfl, fun _ h => h⟩⟩
  refine h.next hd ⟨hos.1, hos.2.1, hos.2.2, by omega, fun k hk hM => ho k (fun e => hB.elim (fun _ => by omega) (fun h2 => hM (e ▸ h2)))⟩ (fun _ h => h) (fun k hk => ⟨by have := (h.inew k hk).1; omega, (h.inew k hk).2⟩)
    (fun k b' hk => ?_) h.inj hmm (hmm _ _ hu) (fun k => ?_)
  · obtain ⟨k1, k2, k3⟩ := h.loc k b' hk
    refine ⟨by omega, k2, ?_⟩
    rw [hlk]
    by_cases e : c = k
    · subst e
      rw [hl] at hk
      cases hk
      exact hB.imp id .inl
    · rw [if_neg e]; exact k3
  · rw [hlk]
    by_cases e : c = k
    · subst e
      rw [if_pos rfl]
      exact hrow
    · rw [if_neg e]
      exact ChR.mono (E := E) (m := lkO s.mem) (w := w) (fun _ h => h) hI hmm rfl rfl (fun b' hb' => ho b' (fun e' => e (h.inj c k g hl (e' ▸ hb')))) (h.ch k)

theorem TkOk_struct {d : TypeDesc} {fl : List (Nat × Nat)} (h : TkOk P d (.struct fl)) : ∃ fs, d = .struct fs ∧ fs.size = fl.length ∧
    ∀ (i : Nat) (f : Field), fs[i]? = some f → fl[i]? = some (f.offset, f.type) ∧ ∃ inf, P.info? f.type = some inf ∧ inf.size ≠ 0 := by
  cases d <;> first | exact ⟨_, rfl, h.1, h.2⟩ | exact h.elim
theorem TkOk_arr {d : TypeDesc} {n e : Nat} (h : TkOk P d (.arr n e)) : d = .array n e := by
  cases d <;> first | (obtain ⟨rfl, rfl⟩ := h; rfl) | exact h.elim
theorem TkOk_sl {d : TypeDesc} {e : Nat} (h : TkOk P d (.sl e)) : d = .slice e := by
  cases d <;> first | (cases h; rfl) | exact h.elim
theorem TkOk_ptr {d : TypeDesc} {e : Nat} (h : TkOk P d (.ptr e)) : d = .pointer e := by
  cases d <;> first | (cases h; rfl) | exact h.elim
theorem TkOk_int {d : TypeDesc} {k : IntKind} (h : TkOk P d (.int k)) : d = .int k := by
  cases d <;> first | (cases h; rfl) | exact h.elim
theorem TkOk_flt {d : TypeDesc} (h : TkOk P d .flt) : d = .float .f64 := by
  cases d <;> simp_all [TkOk]
theorem TkOk_bool {d : TypeDesc} (h : TkOk P d .bool) : d = .bool := by
  cases d <;> first | rfl | exact h.elim
theorem TkOk_str {d : TypeDesc} (h : TkOk P d .str) : d = .string := by
  cases d <;> first | rfl | exact h.elim

theorem run_field (hP : CxOk P cx) {t f fo : Nat} (hf : fieldOff cx t f = some fo) (b off : Nat) (w : World) : (Instr.fieldAt t (.pointer (some ⟨b, off, none⟩)) f).run P w = .ok (.pointer (some ⟨b, off + fo, none⟩)) w := by
  unfold fieldOff at hf
  cases ht : tyOf cx t with
  | none => rw [ht] at hf; cases hf
  | some L =>
    rw [ht] at hf
    obtain ⟨d, h1, h2⟩ := (tyRun hP ht).desc
    cases hk : L.k with
    | struct fl =>
      simp only [hk] at hf h2
      obtain ⟨fs, rfl, h3, h4⟩ := TkOk_struct h2
      cases hq : fl[f]? with
      | none => rw [hq] at hf; cases hf
      | some p =>
        obtain ⟨o', ft⟩ := p
        rw [hq] at hf
        cases hf
        have hlt : f < fs.size := by have := (List.getElem?_eq_some_iff.1 hq).1; omega
        have hfs : fs[f]? = some fs[f] := Array.getElem?_eq_getElem hlt
        obtain ⟨h5, inf, h6, h7⟩ := h4 f _ hfs
        rw [hq] at h5
        simp only [Option.some.injEq, Prod.mk.injEq] at h5
        simp [Instr.fieldAt, run_underlying h1, hfs, Instr.sureAddr, fieldPlace, run_size h6, h7, addr_add, h5.1]
    | _ => simp only [hk] at hf; cases hf

theorem ep_add {I : Nat → Prop} {x : Value} {ks : List CK} {l : List SV} {i q : Nat} (h : Conc I w x (.ep ks l i q)) : ∃ b p, x = .pointer (some ⟨b, p, none⟩) ∧ ∀ d, Conc I w (.pointer (some ⟨b, p + d, none⟩)) (.ep ks l i (q + d)) := by
  cases h with
  | ep b o' _ _ _ _ x hb hi hsh hx hc => exact ⟨b, o' + i * ks.length + q, rfl, fun d => by rw [Nat.add_assoc]; exact .ep b o' ks l i (q + d) x hb hi hsh hx hc⟩

theorem sound_fieldAddr (hP : CxOk P cx) {t f : Nat} {y : Operand} (ho : o.op = .fieldAddr t y f) : Sound cx P o := by
  intro B M I0 G w0 E s a w K Q h hd hob hK
  have e : opx cx s.mem (ev s.tm) o = opE cx s.mem (ev s.tm) o.dst (.fieldAddr t y f) := by simp [opx, ho]
  rw [e] at hob hK
  simp only [opE] at hob hK
  have hy := h.eval y
  cases hf : fieldOff cx t f with
  | none => simp only [hf] at hob; exact hob.elim
  | some fo =>
    cases hv : ev s.tm y with
    | ptr c off =>
      rw [hv] at hy
      simp only [hf, hv] at hK
      obtain ⟨b, bt, cs, e1, hm, hl⟩ := hy.inv_ptr
      exact op_val h hd (x := .pointer (some ⟨b, off + fo, none⟩)) (by simp [execOp, ho, e1, run_field hP hf]) (.ptr c _ b bt cs hm hl) hK
    | ptx c off =>
      rw [hv] at hy
      simp only [hf, hv] at hK
      obtain ⟨b, bt, cs, e1, hm, hl⟩ := hy.inv_ptx
      exact op_val h hd (x := .pointer (some ⟨b, off + fo, none⟩)) (by simp [execOp, ho, e1, run_field hP hf]) (.ptx c _ b bt cs hm hl) hK
    | ep ks l i off =>
      rw [hv] at hy
      simp only [hf, hv] at hK
      obtain ⟨b, p, e1, hadd⟩ := ep_add hy.inv_ep
      exact op_val h hd (x := .pointer (some ⟨b, p + fo, none⟩)) (by simp [execOp, ho, e1, run_field hP hf]) (.conc _ _ (hadd fo)) hK
    | rptr c sz i off ver =>
      rw [hv] at hy
      simp only [hf, hv] at hob hK
      cases hm : lkO s.mem c with
      | none => simp only [hm] at hob; exact hob.elim
      | some ch =>
        cases ch with
        | gh => simp only [hm] at hob; exact hob.elim
        | mp => simp only [hm] at hob; exact hob.elim
        | it => simp only [hm] at hob; exact hob.elim
        | row v e ks l =>
          simp only [hm] at hob hK
          cases hq : Nat.beq v ver with
          | false => simp only [hq] at hob; exact hob.elim
          | true =>
            simp only [hq] at hob hK
            have q1 := Nat.eq_of_beq_eq_true hq
            obtain ⟨hi⟩ := hob
            have hrow : RowR E w c e ks l := by have := h.ch c; rw [hm] at this; exact this
            obtain ⟨g, cap, hl, _, _⟩ := hrow.cells (by omega)
            obtain ⟨v', e1, e2, e3⟩ := hy.inv_rptr
            have e1' := e1
            rw [hm] at e1
            simp only [verOf, Option.some.injEq] at e1
            have e4 := e3 (by omega) g hl
            refine op_val h hd (x := .pointer (some ⟨g, i * sz + off + fo, none⟩)) (by simp [execOp, ho, e4, run_field hP hf]) (.rptr _ c sz i _ ver v' e1' e2 (fun _ b hb => ?_)) hK
            rw [hl] at hb
            cases hb
            rw [Nat.add_assoc]
        | box => simp only [hm] at hob; exact hob.elim
        | froz => simp only [hm] at hob; exact hob.elim
    | _ => simp only [hf, hv] at hob; exact hob.elim
end
end Go.Rx

/- The framework, part 8: indexes, arithmetic, comparisons, conversions. -/
namespace Go.Rx
set_option linter.unusedSectionVars false
open Go.RowKit

section
variable {cx : Cx} {P : Program} [Laid P] {B : Nat} {M I0 : Nat → Prop} {G : Nat → Value} {w0 : World} {E : Env} {s : St} {a : Act} {w : World} {o : Oper} {K : Act → World → Prop} {Q : Exit → Act → World → Prop}

theorem sl_ep {I : Nat → Prop} {x : Value} {ks : List CK} {l : List SV} (h : Conc I w x (.sl ks l)) (i : Nat) (hi : i < l.length) : ∃ b p cap, x = .slice (some ⟨b, p, none⟩) l.length cap ∧ Conc I w (.pointer (some ⟨b, p + i * ks.length, none⟩)) (.ep ks l i 0) := by
  cases h with
  | sl0 => simp at hi
  | sl b off cap _ _ x hb hc hsh hx hxc => exact ⟨b, off, cap, rfl, .ep b off ks l i 0 x hb hi hsh hx hxc⟩

theorem sl_len {I : Nat → Prop} {x : Value} {ks : List CK} {l : List SV} (h : Conc I w x (.sl ks l)) : ∃ ad cap, x = .slice ad l.length cap ∧ l.length ≤ cap + l.length := by
  cases h with
  | sl0 a cap => exact ⟨a, cap, rfl, by omega⟩
  | sl b off cap _ _ x hb hc hsh hx hxc => exact ⟨_, cap, rfl, by omega⟩

theorem sound_indexAddr (hP : CxOk P cx) {t : Nat} {y z : Operand} (ho : o.op = .indexAddr t y z) : Sound cx P o := by
  intro B M I0 G w0 E s a w K Q h hd hob hK
  have e : opx cx s.mem (ev s.tm) o = opE cx s.mem (ev s.tm) o.dst (.indexAddr t y z) := by simp [opx, ho]
  rw [e] at hob hK
  simp only [opE] at hob hK
  have hy := h.eval y
  have hz := h.eval z
  cases hi : ev s.tm z <;> cases hv : ev s.tm y <;> simp only [hi, hv] at hob hK <;> try exact hob.elim
  · rename_i k n c off
    rw [hi] at hz
    rw [hv] at hy
    cases ht : tyOf cx t with
    | none => rw [ht] at hob; exact hob.elim
    | some L =>
      obtain ⟨d, h1, h2⟩ := (tyRun hP ht).desc
      simp only [ht] at hob hK
      cases hk : L.k with
      | arr len e =>
        simp only [hk] at hob hK h2
        have := TkOk_arr h2
        subst this
        cases he : tyOf cx e with
        | none => rw [he] at hob; exact hob.elim
        | some Le =>
          obtain ⟨inf, zv, i1, i2, _⟩ := (tyRun hP he).info
          simp only [he] at hob hK
          obtain ⟨b, bt, cs, e1, hm, hl⟩ := hy.inv_ptr
          cases hlit : cx.lit with
          | false =>
            simp only [hlit] at hob hK
            obtain ⟨⟨hn0, hn1⟩⟩ := hob
            refine op_val h hd (x := .pointer (some ⟨b, off + n.toNat * Le.ks.length, none⟩)) ?_ (.ptx c _ b bt cs hm hl) hK
            simp [execOp, ho, Instr.indexAt, hz.inv_int, asIntOf, run_underlying h1, e1, Instr.sureAddr, hn0, hn1, run_size i1, i2, addr_add]
          | true =>
            simp only [hlit] at hob hK
            obtain ⟨⟨hn0, hn1⟩⟩ := hob
            refine op_val h hd (x := .pointer (some ⟨b, off + n.toNat * Le.ks.length, none⟩)) ?_ (.ptr c _ b bt cs hm hl) hK
            simp [execOp, ho, Instr.indexAt, hz.inv_int, asIntOf, run_underlying h1, e1, Instr.sureAddr, hn0, hn1, run_size i1, i2, addr_add]
      | _ => simp only [hk] at hob; exact hob.elim
  · rename_i k n c ver
    rw [hi] at hz
    rw [hv] at hy
    cases ht : tyOf cx t with
    | none => rw [ht] at hob; exact hob.elim
    | some L =>
      obtain ⟨d, h1, h2⟩ := (tyRun hP ht).desc
      simp only [ht] at hob hK
      cases hk : L.k with
      | sl e =>
        simp only [hk] at hob hK h2
        have := TkOk_sl h2
        subst this
        cases he : tyOf cx e with
        | none => rw [he] at hob; exact hob.elim
        | some Le =>
          obtain ⟨inf, zv, i1, i2, _⟩ := (tyRun hP he).info
          simp only [he] at hob hK
          obtain ⟨v', e1, e2⟩ := hy.inv_osl
          cases hm : lkO s.mem c with
          | none => simp only [hm] at hob; exact hob.elim
          | some ch =>
            have hch := h.ch c
            rw [hm] at hch
            have e1' := e1
            rw [hm] at e1
            cases ch with
            | box => simp only [hm] at hob; exact hob.elim
            | gh => simp only [hm] at hob; exact hob.elim
            | mp => simp only [hm] at hob; exact hob.elim
            | it => simp only [hm] at hob; exact hob.elim
            | row v e' ks l =>
              simp only [hm] at hob hK
              cases hq : (Nat.beq v ver && Nat.beq Le.ks.length ks.length) with
              | false => simp only [hq] at hob; exact hob.elim
              | true =>
                simp only [hq] at hob hK
                simp only [Bool.and_eq_true] at hq
                obtain ⟨q1, q2⟩ := hq
                have q1 := Nat.eq_of_beq_eq_true q1
                have q2 := Nat.eq_of_beq_eq_true q2
                obtain ⟨⟨hn0, hn1⟩⟩ := hob
                simp only [verOf, Option.some.injEq] at e1
                have hrow : RowR E w c e' ks l := hch
                obtain ⟨g, cap, hl, hcv, _⟩ := hrow.cells (by omega)
                have hx := e2 (by omega)
                rw [hcv] at hx
                refine op_val h hd (x := .pointer (some ⟨g, n.toNat * ks.length, none⟩)) ?_ (.rptr _ c ks.length n.toNat 0 ver v' e1' (by omega) (fun _ b hb => ?_)) hK
                · simp [execOp, ho, Instr.indexAt, hz.inv_int, asIntOf, run_underlying h1, hx, hn0, hn1, run_size i1, i2, q2, addr_add]
                · rw [hl] at hb
                  cases hb
                  rw [Nat.add_zero]
            | froz v ks l =>
              simp only [hm] at hob hK
              cases hq : (Nat.beq v ver && Nat.beq Le.ks.length ks.length) with
              | false => simp only [hq] at hob; exact hob.elim
              | true =>
                simp only [hq] at hob hK
                simp only [Bool.and_eq_true] at hq
                obtain ⟨q1, q2⟩ := hq
                have q1 := Nat.eq_of_beq_eq_true q1
                have hq' := Nat.eq_of_beq_eq_true q2
                obtain ⟨⟨hn0, hn1⟩⟩ := hob
                simp only [verOf, Option.some.injEq] at e1
                have hx := e2 (by omega)
                have hcon : Conc E.I w (E.cv c) (.sl ks l) := hch
                obtain ⟨b, p, cap, e4, hep⟩ := sl_ep hcon n.toNat (by omega)
                rw [e4] at hx
                refine op_val h hd (x := .pointer (some ⟨b, p + n.toNat * ks.length, none⟩)) ?_ (.conc _ _ hep) hK
                simp [execOp, ho, Instr.indexAt, hz.inv_int, asIntOf, run_underlying h1, hx, hn0, hn1, run_size i1, i2, hq', addr_add]
      | _ => simp only [hk] at hob; exact hob.elim
  · rename_i k n ks l
    rw [hi] at hz
    rw [hv] at hy
    cases ht : tyOf cx t with
    | none => rw [ht] at hob; exact hob.elim
    | some L =>
      obtain ⟨d, h1, h2⟩ := (tyRun hP ht).desc
      simp only [ht] at hob hK
      cases hk : L.k with
      | sl e =>
        simp only [hk] at hob hK h2
        have := TkOk_sl h2
        subst this
        cases he : tyOf cx e with
        | none => rw [he] at hob; exact hob.elim
        | some Le =>
          obtain ⟨inf, zv, i1, i2, _⟩ := (tyRun hP he).info
          simp only [he] at hob hK
          cases hq : Nat.beq Le.ks.length ks.length with
          | false => simp only [hq] at hob; exact hob.elim
          | true =>
            simp only [hq] at hob hK
            have hq' := Nat.eq_of_beq_eq_true hq
            obtain ⟨⟨hn0, hn1⟩⟩ := hob
            obtain ⟨b, p, cap, e1, hep⟩ := sl_ep hy.inv_sl n.toNat (by omega)
            refine op_val h hd (x := .pointer (some ⟨b, p + n.toNat * ks.length, none⟩)) ?_ (.conc _ _ hep) hK
            simp [execOp, ho, Instr.indexAt, hz.inv_int, asIntOf, run_underlying h1, e1, hn0, hn1, run_size i1, i2, hq', addr_add]
      | _ => simp only [hk] at hob; exact hob.elim

/-- A part of a struct or an array that is at hand. -/
theorem run_part' {t : Nat} {L : TyL} (h : TyOk P t L) (xs : Array Value) (off : Nat) (hn : off + L.ks.length ≤ xs.size) (w : World) :
    (part t xs off).run P w = .ok (match L.k.agg with | true => .agg ((List.range L.ks.length).map fun j => xs.getD (off + j) undef).toArray | false => xs.getD off undef) w := by
  obtain ⟨inf, z, h1, h2, _⟩ := h.info
  unfold part
  rw [Sem.run_bind, run_isAgg h, Result.andThen_ok]
  cases hk : L.k.agg with
  | true =>
    simp only [if_true, Sem.run_bind, run_size h1, Result.andThen_ok, Sem.run_pure, h2]
    congr 2
    apply Array.ext
    · simp; omega
    · intro i h1 h2
      simp at h1 h2
      simp [Array.getD_eq_getD_getElem?]
      rw [Array.getElem?_eq_getElem (by omega)]
      simp
  | false =>
    have h3 := h.one hk
    have : xs[off]? = some (xs.getD off undef) := by
      rw [Array.getElem?_eq_getElem (by omega)]
      simp [Array.getD_eq_getD_getElem?, Array.getElem?_eq_getElem (show off < xs.size by omega)]
    rw [if_neg (by simp), this]
    rfl

theorem ba_get (b : ByteArray) (i : Nat) (h : i < b.data.toList.length) : b[i]? = some (b.data.toList.getD i 0) := by
  have h' : i < b.size := by simpa using h
  rw [getElem?_pos b i h']
  simp only [List.getD_eq_getElem?_getD, List.getElem?_eq_getElem h, Option.getD_some]
  rfl

/-- A field of a value. -/
theorem sound_field (hP : CxOk P cx) {t f : Nat} {y : Operand} (ho : o.op = .field t y f) : Sound cx P o := by
  intro B M I0 G w0 E s a w K Q h hd hob hK
  have e : opx cx s.mem (ev s.tm) o = opE cx s.mem (ev s.tm) o.dst (.field t y f) := by simp [opx, ho]
  rw [e] at hob hK
  simp only [opE] at hob hK
  have hy := h.eval y
  cases hv : ev s.tm y <;> simp only [hv] at hob hK <;> try exact hob.elim
  rename_i cs
  rw [hv] at hy
  cases ht : tyOf cx t with
  | none => rw [ht] at hob; exact hob.elim
  | some L =>
    obtain ⟨d, h1, h2⟩ := (tyRun hP ht).desc
    simp only [ht] at hob hK
    cases hk : L.k <;> simp only [hk] at hob hK h2 <;> try exact hob.elim
    rename_i fl
    obtain ⟨fs, rfl, h3, h4⟩ := TkOk_struct h2
    cases hq : fl[f]? with
    | none => rw [hq] at hob; exact hob.elim
    | some pr =>
      obtain ⟨fo, ft⟩ := pr
      simp only [hq] at hob hK
      cases he : tyOf cx ft with
      | none => rw [he] at hob; exact hob.elim
      | some Lf =>
        have hLe := tyRun hP he
        simp only [he] at hob hK
        obtain ⟨xs, e1, e2, e3⟩ := hy.inv_agg
        cases hb : Nat.ble (fo + Lf.ks.length) cs.length with
        | false => simp only [hb] at hob; exact hob.elim
        | true =>
          simp only [hb] at hob hK
          have hn2 := Nat.le_of_ble_eq_true hb
          have hlt : f < fs.size := by have := (List.getElem?_eq_some_iff.1 hq).1; omega
          have hfs : fs[f]? = some fs[f] := Array.getElem?_eq_getElem hlt
          obtain ⟨h5, inf, h6, h7⟩ := h4 f _ hfs
          rw [hq] at h5
          simp only [Option.some.injEq, Prod.mk.injEq] at h5
          refine op_val h hd ?_ (ldAt_cv (f := fun j => xs.getD (fo + j) undef) hLe hn2 (fun j _ => e3 _)) hK
          simp only [execOp, ho, Instr.field, Sem.run_bind, Sem.run_pure, Result.andThen_ok, run_underlying h1, e1, hfs, asAgg, ← h5.1, ← h5.2]
          rw [run_part' hLe xs _ (by omega)]
          rfl

theorem sound_index (hP : CxOk P cx) {t : Nat} {y z : Operand} (ho : o.op = .index t y z) : Sound cx P o := by
  intro B M I0 G w0 E s a w K Q h hd hob hK
  have e : opx cx s.mem (ev s.tm) o = opE cx s.mem (ev s.tm) o.dst (.index t y z) := by simp [opx, ho]
  rw [e] at hob hK
  simp only [opE] at hob hK
  have hy := h.eval y
  have hz := h.eval z
  cases hi : ev s.tm z <;> cases hv : ev s.tm y <;> simp only [hi, hv] at hob hK <;> try exact hob.elim
  · rename_i k n l
    rw [hi] at hz
    rw [hv] at hy
    cases ht : tyOf cx t with
    | none => rw [ht] at hob; exact hob.elim
    | some L =>
      obtain ⟨d, h1, h2⟩ := (tyRun hP ht).desc
      simp only [ht] at hob hK
      cases hk : L.k <;> simp only [hk] at hob hK h2 <;> try exact hob.elim
      have := TkOk_str h2
      subst this
      obtain ⟨⟨hn0, hn1⟩⟩ := hob
      obtain ⟨b, e1, e2⟩ := hy.inv_str
      refine op_val h hd (x := .int .u8 (l.getD n.toNat 0).toNat) ?_ (.conc _ _ (.int _ _)) hK
      have hb := ba_get b n.toNat (by rw [e2]; omega)
      rw [e2] at hb
      simp only [execOp, ho, Instr.index, hz.inv_int, asIntOf, Sem.run_bind, Sem.run_pure, Result.andThen_ok, run_underlying h1, e1, if_pos hn0, hb]
  · rename_i k n cs
    rw [hi] at hz
    rw [hv] at hy
    cases ht : tyOf cx t with
    | none => rw [ht] at hob; exact hob.elim
    | some L =>
      obtain ⟨d, h1, h2⟩ := (tyRun hP ht).desc
      simp only [ht] at hob hK
      cases hk : L.k <;> simp only [hk] at hob hK h2 <;> try exact hob.elim
      rename_i len e
      have := TkOk_arr h2
      subst this
      cases he : tyOf cx e with
      | none => rw [he] at hob; exact hob.elim
      | some Le =>
        have hLe := tyRun hP he
        obtain ⟨inf, zv, i1, i2, _⟩ := hLe.info
        simp only [he] at hob hK
        obtain ⟨xs, e1, e2, e3⟩ := hy.inv_agg
        cases hlit : cx.lit with
        | false =>
          simp only [hlit] at hob hK
          obtain ⟨⟨hn0, hn1, hn2, hn3⟩⟩ := hob
          refine op_val h hd ?_ (ldBy_cv (f := fun j => xs.getD (n.toNat * Le.ks.length + j) undef) hLe (fun j _ => e3 _) hn3) hK
          simp only [execOp, ho, Instr.index, hz.inv_int, asIntOf, Sem.run_bind, Sem.run_pure, Result.andThen_ok, run_underlying h1, e1, hn0, hn1, and_self, if_true, run_size i1, i2]
          rw [run_part' hLe xs _ (by omega)]
          rfl
        | true =>
          simp only [hlit] at hob hK
          cases hb : Nat.ble (n.toNat * Le.ks.length + Le.ks.length) cs.length with
          | false => simp only [hb] at hob; exact hob.elim
          | true =>
            simp only [hb] at hob hK
            have hn2 := Nat.le_of_ble_eq_true hb
            obtain ⟨⟨hn0, hn1⟩⟩ := hob
            refine op_val h hd ?_ (ldAt_cv (f := fun j => xs.getD (n.toNat * Le.ks.length + j) undef) hLe hn2 (fun j _ => e3 _)) hK
            simp only [execOp, ho, Instr.index, hz.inv_int, asIntOf, Sem.run_bind, Sem.run_pure, Result.andThen_ok, run_underlying h1, e1, hn0, hn1, and_self, if_true, run_size i1, i2]
            rw [run_part' hLe xs _ (by omega)]
            rfl
end
end Go.Rx

/- The framework, part 9: arithmetic and comparisons. -/
namespace Go.Rx
set_option linter.unusedSectionVars false
open Go.RowKit

section
variable {cx : Cx} {P : Program} [Laid P] {B : Nat} {M I0 : Nat → Prop} {G : Nat → Value} {w0 : World} {E : Env} {s : St} {a : Act} {w : World} {o : Oper} {K : Act → World → Prop} {Q : Exit → Act → World → Prop}

theorem run_ar {op : BinOp} {k : IntKind} {x y : Int} (t : Nat) (hob : obH (arOb op y)) (w : World) : ∃ v, (binOp op t (.int k x) (.int k y)).run P w = .ok v w ∧ ∀ (E : Env) (m : Nat → Option Chunk), CV E m w v (ar op k x y) := by
  cases op <;> simp only [arOb, obH] at hob <;> first | exact hob.elim | skip
  case add => exact ⟨.int k (k.wrap (x + y)), by simp [binOp, Op.intArith], fun E m => .conc _ _ (.int _ _)⟩
  case sub => exact ⟨.int k (k.wrap (x - y)), by simp [binOp, Op.intArith], fun E m => .conc _ _ (.int _ _)⟩
  case mul => exact ⟨.int k (k.wrap (x * y)), by simp [binOp, Op.intArith], fun E m => .conc _ _ (.int _ _)⟩
  case quo => exact ⟨.int k (k.wrap (x.tdiv y)), by simp [binOp, Op.intDiv, hob.out], fun E m => .conc _ _ (.int _ _)⟩
  case rem => exact ⟨.int k (x.tmod y), by simp [binOp, Op.intDiv, hob.out], fun E m => .conc _ _ (.int _ _)⟩
  case eql => exact ⟨.bool (x == y), by simp [binOp, Op.intCmp], fun E m => .conc _ _ (.bool _)⟩
  case neq => exact ⟨.bool (x != y), by simp [binOp, Op.intCmp], fun E m => .conc _ _ (.bool _)⟩
  case lss => exact ⟨.bool (decide (x < y)), by simp [binOp, Op.intCmp], fun E m => .conc _ _ (.bool _)⟩
  case leq => exact ⟨.bool (decide (x ≤ y)), by simp [binOp, Op.intCmp], fun E m => .conc _ _ (.bool _)⟩
  case gtr => exact ⟨.bool (decide (x > y)), by simp [binOp, Op.intCmp], fun E m => .conc _ _ (.bool _)⟩
  case geq => exact ⟨.bool (decide (x ≥ y)), by simp [binOp, Op.intCmp], fun E m => .conc _ _ (.bool _)⟩
  case and => exact ⟨.int k (andV k x y), by simp [binOp, Op.intBits, andV], fun E m => .conc _ _ (.int _ _)⟩
  case or => exact ⟨.int k (orV k x y), by simp [binOp, Op.intBits, orV], fun E m => .conc _ _ (.int _ _)⟩
  case xor => exact ⟨.int k (xorV k x y), by simp [binOp, Op.intBits, xorV], fun E m => .conc _ _ (.int _ _)⟩
  case shl => exact ⟨.int k (shlV k x y), by have := hob.out; simp [binOp, Op.shift, shlV, show ¬ y < 0 by omega], fun E m => .conc _ _ (.int _ _)⟩
  case shr => exact ⟨.int k (shrV k x y), by have := hob.out; simp [binOp, Op.shift, shrV, show ¬ y < 0 by omega], fun E m => .conc _ _ (.int _ _)⟩

/-- A shift: the count may be of another kind. -/
theorem run_sh {op : BinOp} {k k' : IntKind} {x y : Int} (t : Nat) (ho : isSh op = true) (hob : obH (arOb op y)) (w : World) : ∃ v, (binOp op t (.int k x) (.int k' y)).run P w = .ok v w ∧ ∀ (E : Env) (m : Nat → Option Chunk), CV E m w v (ar op k x y) := by
  cases op <;> first | cases ho | skip
  case shl => exact ⟨.int k (shlV k x y), by have := hob.out; simp [binOp, Op.shift, shlV, show ¬ y < 0 by omega], fun E m => .conc _ _ (.int _ _)⟩
  case shr => exact ⟨.int k (shrV k x y), by have := hob.out; simp [binOp, Op.shift, shrV, show ¬ y < 0 by omega], fun E m => .conc _ _ (.int _ _)⟩

theorem eqGuard_plain (op : BinOp) (t : Nat) (x y : Operand) (u v : Value) (hu : ∀ xs, u ≠ .agg xs) (hn : u ≠ .nilIface) (w : World) : (eqGuard op t x y u v).run P w = .ok () w := by
  unfold eqGuard
  cases op <;> simp <;> (cases u <;> simp_all)

/-- Two booleans. -/
theorem eqV_bool {m : Nat → Option Chunk} {x y : Value} {u v : SV} {r : Bool} (hx : CV E m w x u) (hy : CV E m w y v) (h : eqV u v = some r) : ∃ p q, x = .bool p ∧ y = .bool q ∧ r = (p == q) := by
  cases u <;> cases v <;> simp only [eqV, Option.some.injEq, reduceCtorEq] at h <;> subst h
  · exact ⟨_, _, hx.inv_bool, hy.inv_bool, rfl⟩
  · exact ⟨_, _, hx.inv_bool, hy.inv_tt, by simp⟩
  · exact ⟨_, _, hx.inv_bool, hy.inv_ff, by simp⟩
  · exact ⟨_, _, hx.inv_tt, hy.inv_bool, by simp⟩
  · exact ⟨_, _, hx.inv_tt, hy.inv_tt, rfl⟩
  · exact ⟨_, _, hx.inv_tt, hy.inv_ff, rfl⟩
  · exact ⟨_, _, hx.inv_ff, hy.inv_bool, by simp⟩
  · exact ⟨_, _, hx.inv_ff, hy.inv_tt, rfl⟩
  · exact ⟨_, _, hx.inv_ff, hy.inv_ff, rfl⟩

theorem bytes_beq (p q : ByteArray) : (p.toList == q.toList) = decide (p.data.toList = q.data.toList) := by
  rw [ByteArray.toList_eq, ByteArray.toList_eq]
  by_cases h : p.data.toList = q.data.toList
  · simp [h]
  · rw [decide_eq_false h]
    simpa using fun e => h (by rw [e])

/-- Two cells of a kind. -/
theorem eqK_run {m : Nat → Option Chunk} {x y : Value} {u v : SV} {r : Bool} {k : CK} {t : Nat} (d : Nat) (hx : CV E m w x u) (hy : CV E m w y v) (hk : CkOk P t k) (h : eqK k u v = some r) : (Op.equalIn (d + 1) t x y).run P w = .ok r w := by
  cases k with
  | int k =>
    cases u <;> cases v <;> simp only [eqK, reduceCtorEq] at h
    rename_i k1 a1 k2 a2
    cases hd : decide (k1 = k2) with
    | false => simp only [hd] at h; cases h
    | true =>
      simp only [hd, Option.some.injEq] at h
      have := of_decide_eq_true hd
      subst this
      rw [hx.inv_int, hy.inv_int, run_equalIn_int w d t k1 k a1 a2 hk, ← h]
      rfl
  | bool =>
    have h' : eqV u v = some r := by
      cases u <;> cases v <;> first | exact h | (simp [eqK] at h)
    obtain ⟨p, q, rfl, rfl, rfl⟩ := eqV_bool hx hy h'
    rw [run_equalIn_bool' w d t p q hk]
  | str =>
    cases u <;> cases v <;> simp only [eqK, reduceCtorEq, Option.some.injEq] at h
    obtain ⟨p, rfl, e1⟩ := hx.inv_str
    obtain ⟨q, rfl, e2⟩ := hy.inv_str
    rw [run_equalIn_string w d t p q hk, bytes_beq, e1, e2, ← h]
  | sl ks => cases hk
  | other => cases hk
  | flt => cases hk
  | cpx => cases hk

theorem eqVs_cons {k : CK} {ks : List CK} {x y : SV} {xs ys : List SV} {r : Bool} (h : eqVs (k :: ks) (x :: xs) (y :: ys) = some r) : ∃ p q, eqK k x y = some p ∧ eqVs ks xs ys = some q ∧ r = (p && q) := by
  unfold eqVs at h
  split at h
  · rename_i e _ _
    cases e
  · rename_i k' x' y' e1 e2 e3
    cases e1; cases e2; cases e3
    exact ⟨r, true, h, rfl, by simp⟩
  · rename_i k' ks' x' xs' y' ys' _ e1 e2 e3
    cases e1; cases e2; cases e3
    cases h1 : eqK k x y <;> cases h2 : eqVs ks xs ys <;> simp only [h1, h2, reduceCtorEq, Option.some.injEq] at h
    exact ⟨_, _, rfl, rfl, h.symm⟩
  · cases h

theorem eqVs_len : ∀ {ks : List CK} {xs ys : List SV} {r : Bool}, eqVs ks xs ys = some r → xs.length = ks.length ∧ ys.length = ks.length
  | [], xs, ys, r, h => by cases xs <;> cases ys <;> simp [eqVs] at h; exact ⟨rfl, rfl⟩
  | k :: ks, [], ys, r, h => by simp [eqVs] at h
  | k :: ks, x :: xs, [], r, h => by cases xs <;> simp [eqVs] at h
  | k :: ks, x :: xs, y :: ys, r, h => by
    obtain ⟨p, q, h1, h2, _⟩ := eqVs_cons h
    have := eqVs_len h2
    exact ⟨by simp [this.1], by simp [this.2]⟩

theorem part_scalar {t : Nat} {k : CK} (hk : CkOk P t k) {xs : Array Value} {i : Nat} (hi : i < xs.size) (w : World) : (part t xs i).run P w = .ok (xs.getD i undef) w := by
  have h1 : (isAgg t).run P w = .ok false w := by
    unfold isAgg
    cases k with
    | int k => rw [Sem.run_bind, run_underlying hk]; rfl
    | bool => rw [Sem.run_bind, run_underlying hk]; rfl
    | str => rw [Sem.run_bind, run_underlying hk]; rfl
    | sl => cases hk
    | other => cases hk
    | flt => cases hk
    | cpx => cases hk
  unfold part
  rw [Sem.run_bind, h1, Result.andThen_ok, if_neg (by simp)]
  rw [Array.getElem?_eq_getElem hi]
  simp [Array.getD_eq_getD_getElem?, Array.getElem?_eq_getElem hi]

/-- Two structs, field by field. -/
theorem eqFields_run (d : Nat) {m : Nat → Option Chunk} (xs ys : Array Value) : ∀ (fs : List Field) (ks : List CK) (us vs : List SV) (i : Nat) (r : Bool), fs.length = ks.length → i + fs.length = xs.size → i + fs.length = ys.size →
    (∀ (j : Nat) (f : Field), fs[j]? = some f → f.name ≠ "_" ∧ f.offset = i + j ∧ CkOk P f.type (ks.getD j .other)) → (∀ j, CV E m w (xs.getD (i + j) undef) (us.getD j .any)) → (∀ j, CV E m w (ys.getD (i + j) undef) (vs.getD j .any)) →
    eqVs ks us vs = some r → (Op.eqFields (d + 1) xs ys fs).run P w = .ok r w
  | [], ks, us, vs, i, r, hl, _, _, _, _, _, h => by
    have : ks = [] := List.eq_nil_of_length_eq_zero hl.symm
    subst this
    cases us <;> cases vs <;> simp only [eqVs, Option.some.injEq, reduceCtorEq] at h
    subst h
    simp [Op.eqFields]
  | f :: fs, ks, us, vs, i, r, hl, hx, hy, hf, hcx, hcy, h => by
    cases ks with
    | nil => simp at hl
    | cons k ks =>
      obtain ⟨f1, f2, f3⟩ := hf 0 f rfl
      cases us with
      | nil => simp [eqVs] at h
      | cons u us =>
        cases vs with
        | nil => cases us <;> simp [eqVs] at h
        | cons v vs =>
          obtain ⟨p, q, h1, h2, rfl⟩ := eqVs_cons h
          simp only [List.length_cons] at hl hx hy
          have e1 := eqK_run (P := P) (w := w) (t := f.type) d (by simpa only [Nat.add_zero, List.getD_cons_zero] using hcx 0) (by simpa only [Nat.add_zero, List.getD_cons_zero] using hcy 0) (by simpa using f3) h1
          have ih := eqFields_run d xs ys fs ks us vs (i + 1) q (by omega) (by omega) (by omega) (fun j f' hj => by
            have := hf (j + 1) f' (by simpa using hj)
            exact ⟨this.1, by omega, by simpa using this.2.2⟩) (fun j => by have := hcx (j + 1); rw [show i + 1 + j = i + (j + 1) by omega]; simpa only [List.getD_cons_succ] using this) (fun j => by have := hcy (j + 1); rw [show i + 1 + j = i + (j + 1) by omega]; simpa only [List.getD_cons_succ] using this) h2
          have e2 : f.offset = i := by simpa using f2
          have f3' : CkOk P f.type k := by simpa using f3
          simp only [Op.eqFields, if_pos f1, Sem.run_bind, e2]
          rw [part_scalar f3' (by omega), Result.andThen_ok, part_scalar f3' (by omega), Result.andThen_ok, e1, Result.andThen_ok]
          cases p with
          | false => simp
          | true => simpa using ih

theorem fB_some {op : BinOp} {x y r : Nat} (h : floatBits op .f64 x y = some r) : fB op x y = r := by unfold fB; rw [h]; rfl
theorem fOk_some {op : BinOp} {x y : Nat} (h : fOk op x y) : floatBits op .f64 x y = some (fB op x y) := by
  obtain ⟨r, hr⟩ := Option.isSome_iff_exists.1 h
  rw [fB_some hr]; exact hr
theorem fltBin_run {op : BinOp} {a b : Nat} (t : Nat) (hob : obH (fltBin op a b).ob) (w : World) : ∃ v, (binOp op t (.float .f64 a) (.float .f64 b)).run P w = .ok v w ∧ ∀ (E : Env) (m : Nat → Option Chunk), CV E m w v (fltBin op a b).v := by
  cases op <;> first | exact hob.elim | skip
  · exact ⟨_, run_float_arith w .add t .f64 a b _ (fOk_some hob.out), fun _ _ => .conc _ _ (.flt _)⟩
  · exact ⟨_, run_float_arith w .sub t .f64 a b _ (fOk_some hob.out), fun _ _ => .conc _ _ (.flt _)⟩
  · exact ⟨_, run_float_arith w .mul t .f64 a b _ (fOk_some hob.out), fun _ _ => .conc _ _ (.flt _)⟩
  · exact ⟨_, run_float_arith w .quo t .f64 a b _ (fOk_some hob.out), fun _ _ => .conc _ _ (.flt _)⟩
  all_goals exact ⟨_, by simp [binOp_float_cmp_eql, binOp_float_cmp_neq, binOp_float_cmp_lss, binOp_float_cmp_leq, binOp_float_cmp_gtr, binOp_float_cmp_geq]; rfl, fun _ _ => .conc _ _ (.bool _)⟩
theorem cpxBin_run {op : BinOp} {a b c d : Nat} (t : Nat) (hob : obH (cpxBin op a b c d).ob) (w : World) : ∃ v, (binOp op t (.complex .f64 a b) (.complex .f64 c d)).run P w = .ok v w ∧ ∀ (E : Env) (m : Nat → Option Chunk), CV E m w v (cpxBin op a b c d).v := by
  have sum : ∀ op, (op = .add ∨ op = .sub) → fOk op a c ∧ fOk op b d → (binOp op t (.complex .f64 a b) (.complex .f64 c d)).run P w = .ok (.complex .f64 (fB op a c) (fB op b d)) w := fun op ho h => by
    refine run_complex_sum w op ho t .f64 a b c d _ _ ?_
    unfold cSumBits
    rw [fOk_some h.1, fOk_some h.2]; rfl
  cases op <;> first | exact hob.elim | skip
  · exact ⟨_, sum .add (.inl rfl) hob.out, fun _ _ => .conc _ _ (.cpx _ _)⟩
  · exact ⟨_, sum .sub (.inr rfl) hob.out, fun _ _ => .conc _ _ (.cpx _ _)⟩
  · obtain ⟨r, hr⟩ := Option.isSome_iff_exists.1 hob.out
    refine ⟨.complex .f64 r.1 r.2, run_complex_mul w t a b c d r.1 r.2 hr, fun _ _ => ?_⟩
    show CV _ _ w _ (.cpx (cM a b c d).1 (cM a b c d).2)
    have : cM a b c d = r := by unfold cM; rw [hr]; rfl
    rw [this]; exact .conc _ _ (.cpx _ _)
  · exact ⟨_, run_eql_complex w t .f64 a b c d, fun _ _ => .conc _ _ (.bool _)⟩
  · exact ⟨_, run_neq_complex w t .f64 a b c d, fun _ _ => .conc _ _ (.bool _)⟩
theorem sound_binOp (hP : CxOk P cx) {op : BinOp} {t t2 : Nat} {y z : Operand} (ho : o.op = .binOp op t y z t2) : Sound cx P o := by
  intro B M I0 G w0 E s a w K Q h hd hob hK
  have e : opx cx s.mem (ev s.tm) o = opE cx s.mem (ev s.tm) o.dst (.binOp op t y z t2) := by simp [opx, ho]
  rw [e] at hob hK
  simp only [opE] at hob hK
  have hy := h.eval y
  have hz := h.eval z
  split at hob
  · rename_i k a1 k' a2 e1 e2
    rw [e1] at hy hK
    rw [e2] at hz hK
    simp only at hK
    cases hd' : decide (k = k') || isSh op with
    | false => simp only [hd'] at hob; exact hob.elim
    | true =>
      simp only [hd'] at hob hK
      have hrun : ∃ v, (binOp op t (.int k a1) (.int k' a2)).run P w = .ok v w ∧ ∀ (E : Env) (m : Nat → Option Chunk), CV E m w v (ar op k a1 a2) := by
        rw [Bool.or_eq_true] at hd'
        rcases hd' with hd' | hd'
        · have := of_decide_eq_true hd'
          subst this
          exact run_ar (P := P) (k := k) (x := a1) t hob w
        · exact run_sh t hd' hob w
      obtain ⟨v, hr, hv⟩ := hrun
      refine op_val h hd (x := v) ?_ (hv _ _) hK
      simp only [execOp, ho, hy.inv_int, hz.inv_int, Sem.run_bind]
      rw [eqGuard_plain _ _ _ _ _ _ (by simp) (by simp), Result.andThen_ok, hr]
      rfl
  · rename_i a1 a2 e1 e2
    rw [e1] at hy hK
    rw [e2] at hz hK
    simp only at hK
    obtain ⟨p, hp, e3⟩ := hy.inv_str
    obtain ⟨q, hq, e4⟩ := hz.inv_str
    have run : ∀ {v : Value}, (Op.stringOp op p q).run P w = .ok v w → (op ≠ .shl) → (op ≠ .shr) → (execOp a.eval o).run P w = .ok (.value v) w := fun {v} hv h1 h2 => by
      simp only [execOp, ho, hp, hq, Sem.run_bind]
      rw [eqGuard_plain _ _ _ _ _ _ (by simp) (by simp), Result.andThen_ok]
      have : binOp op t (.string p) (.string q) = Op.stringOp op p q := by cases op <;> first | rfl | exact absurd rfl h1 | exact absurd rfl h2
      rw [this, hv]
      rfl
    split at hob
    · simp only at hK
      have hlen := hob.out
      refine op_val h hd (run (v := .string (p ++ q)) ?_ (by simp) (by simp)) (.conc _ _ (.str _ _ ?_)) hK
      · simp only [Op.stringOp]
        rw [if_neg ?_]
        · rfl
        · have e5 : p.size = a1.length := by rw [← e3]; simp
          have e6 : q.size = a2.length := by rw [← e4]; simp
          rw [e5, e6]
          have : IntKind.max .i64 = 9223372036854775807 := by decide
          rw [this]
          omega
      · rw [ByteArray.data_append]; simp [e3, e4]
    · exact op_val h hd (run (v := .bool (p.toList == q.toList)) (by simp [Op.stringOp]) (by simp) (by simp)) (by rw [bytes_beq, e3, e4]; exact .conc _ _ (.bool _)) hK
    · exact op_val h hd (run (v := .bool (!(p.toList == q.toList))) (by simp [Op.stringOp]) (by simp) (by simp)) (by rw [bytes_beq, e3, e4]; exact .conc _ _ (.bool _)) hK
    · refine op_val h hd (run (v := .bool (Op.bytesLess p.toList q.toList)) (by simp [Op.stringOp]) (by simp) (by simp)) ?_ hK
      rw [ByteArray.toList_eq, ByteArray.toList_eq, e3, e4]
      exact .conc _ _ (.bool _)
    · refine op_val h hd (run (v := .bool (Op.bytesLess p.toList q.toList || p.toList == q.toList)) (by simp [Op.stringOp]) (by simp) (by simp)) ?_ hK
      rw [bytes_beq, ByteArray.toList_eq, ByteArray.toList_eq, e3, e4]
      exact .conc _ _ (.bool _)
    · refine op_val h hd (run (v := .bool (!(Op.bytesLess p.toList q.toList || p.toList == q.toList))) (by simp [Op.stringOp]) (by simp) (by simp)) ?_ hK
      rw [bytes_beq, ByteArray.toList_eq, ByteArray.toList_eq, e3, e4]
      exact .conc _ _ (.bool _)
    · refine op_val h hd (run (v := .bool (!Op.bytesLess p.toList q.toList)) (by simp [Op.stringOp]) (by simp) (by simp)) ?_ hK
      rw [ByteArray.toList_eq, ByteArray.toList_eq, e3, e4]
      exact .conc _ _ (.bool _)
    · exact hob.elim
  · rename_i a1 a2 e1 e2
    rw [e1] at hy hK
    rw [e2] at hz hK
    simp only at hK
    obtain ⟨v, hr, hv⟩ := fltBin_run (P := P) t hob w
    rw [show (fltBin op a1 a2).ch = [] by cases op <;> rfl] at hK
    refine op_val h hd (x := v) ?_ (hv _ _) hK
    simp only [execOp, ho, hy.inv_flt, hz.inv_flt, Sem.run_bind]
    rw [eqGuard_plain _ _ _ _ _ _ (by simp) (by simp), Result.andThen_ok, hr]
    rfl
  · rename_i a1 a2 a3 a4 e1 e2
    rw [e1] at hy hK
    rw [e2] at hz hK
    simp only at hK
    obtain ⟨v, hr, hv⟩ := cpxBin_run (P := P) t hob w
    rw [show (cpxBin op a1 a2 a3 a4).ch = [] by cases op <;> rfl] at hK
    refine op_val h hd (x := v) ?_ (hv _ _) hK
    simp only [execOp, ho, hy.inv_cpx, hz.inv_cpx, Sem.run_bind]
    rw [eqGuard_plain _ _ _ _ _ _ (by simp) (by simp), Result.andThen_ok, hr]
    rfl
  · rename_i x1 x2 ne1 ne2 ne3 ne4
    split at hK
    · rename_i e1 e2; exact (ne1 _ _ _ _ e1 e2).elim
    · rename_i e1 e2; exact (ne2 _ _ e1 e2).elim
    · rename_i e1 e2; exact (ne3 _ _ e1 e2).elim
    · rename_i e1 e2; exact (ne4 _ _ _ _ e1 e2).elim
    clear ne1 ne2 ne3 ne4
    cases ht : tyOf cx t with
    | none => rw [ht] at hob; exact hob.elim
    | some L =>
      have hL := tyRun hP ht
      obtain ⟨d, h1, h2⟩ := hL.desc
      simp only [ht] at hob hK
      cases hk : L.k <;> simp only [hk] at hob hK h2 <;> try exact hob.elim
      · -- bool
        have := TkOk_bool h2
        subst this
        have key : ∀ r, eqV (ev s.tm y) (ev s.tm z) = some r → (∀ {neg : Bool}, op = (if neg then .neq else .eql) → (execOp a.eval o).run P w = .ok (.value (.bool (if neg then !r else r))) w) := by
          intro r hr neg hop
          obtain ⟨p, q, e1, e2, e3⟩ := eqV_bool hy hz hr
          subst e3
          simp only [execOp, ho, e1, e2, Sem.run_bind]
          rw [eqGuard_plain _ _ _ _ _ _ (by simp) (by simp), Result.andThen_ok]
          cases neg with
          | false =>
            simp only [hop, Bool.false_eq_true, if_false, binOp, Sem.run_bind, Op.equal]
            rw [show Op.maxDepth = 9999 + 1 from rfl, run_equalIn_bool' w 9999 t p q h1]
            rfl
          | true =>
            simp only [hop, if_true, binOp, Sem.run_bind, Op.equal]
            rw [show Op.maxDepth = 9999 + 1 from rfl, run_equalIn_bool' w 9999 t p q h1]
            rfl
        split at hob
        · rename_i r hr
          simp only [hr] at hK
          exact op_val h hd (key r hr (neg := false) rfl) (.conc _ _ (.bool _)) hK
        · rename_i r hr
          simp only [hr] at hK
          exact op_val h hd (key r hr (neg := true) rfl) (.conc _ _ (.bool _)) hK
        · exact hob.elim
      · -- a struct
        rename_i fl
        have struct : ∀ {xs ys : List SV} {r : Bool}, L.eq = true → eqVs L.ks xs ys = some r → ev s.tm y = .agg xs → ev s.tm z = .agg ys → ∀ {neg : Bool}, op = (if neg then .neq else .eql) →
            (execOp a.eval o).run P w = .ok (.value (.bool (if neg then !r else r))) w := by
          intro xs ys r heq hr e1 e2 neg hop
          rw [e1] at hy
          rw [e2] at hz
          obtain ⟨p, p1, p2, p3⟩ := hy.inv_agg
          obtain ⟨q, q1, q2, q3⟩ := hz.inv_agg
          obtain ⟨fs, f1, f2, f3, f4, f5⟩ := hL.eq heq
          have hfo : P.fieldsOf t = fs := by simp [Program.fieldsOf, f1]
          have hlx := eqVs_len hr
          have hrun : (Op.equalIn 10000 t (.agg p) (.agg q)).run P w = .ok r w := by
            rw [show (10000 : Nat) = 9999 + 1 from rfl, run_equalIn_struct w 9999 t p q (by rw [hfo]; exact f1) f2, hfo]
            exact eqFields_run 9998 p q fs.toList L.ks xs ys 0 r (by simpa using f4) (by simp; omega) (by simp; omega) (fun j f hj => by
              have := f5 j f (by simpa using hj)
              exact ⟨this.1, by omega, this.2.2⟩) (fun j => by rw [Nat.zero_add]; exact p3 j) (fun j => by rw [Nat.zero_add]; exact q3 j) hr
          simp only [execOp, ho, p1, q1, Sem.run_bind]
          rw [run_eqGuard_agg w op t y z p q f3, Result.andThen_ok]
          cases neg with
          | false =>
            simp only [hop, Bool.false_eq_true, if_false]
            rw [run_eql_struct, hrun]
            rfl
          | true =>
            simp only [hop, if_true]
            rw [run_neq_struct, hrun]
            rfl
        split at hob
        · rename_i xs ys heq e1 e2
          rw [heq, e1, e2] at hK
          simp only at hK
          cases hr : eqVs L.ks xs ys with
          | none => simp only [hr] at hob; exact hob.elim
          | some r =>
            simp only [hr] at hK
            exact op_val h hd (by simpa using struct heq hr e1 e2 (neg := false) rfl) (.conc _ _ (.bool _)) hK
        · rename_i xs ys heq e1 e2
          rw [heq, e1, e2] at hK
          simp only at hK
          cases hr : eqVs L.ks xs ys with
          | none => simp only [hr] at hob; exact hob.elim
          | some r =>
            simp only [hr] at hK
            exact op_val h hd (by simpa using struct heq hr e1 e2 (neg := true) rfl) (.conc _ _ (.bool _)) hK
        · exact hob.elim
      · -- a slice and nil
        rename_i se
        have hd2 := TkOk_sl h2
        subst hd2
        have key : ∀ (u : Option Addr) (len cap : Nat), op = .eql → a.eval y = .slice u len cap → a.eval z = .slice none 0 0 → (execOp a.eval o).run P w = .ok (.value (.bool u.isNone)) w := by
          intro u len cap hop e1 e2
          simp only [execOp, ho, e1, e2, Sem.run_bind]
          rw [eqGuard_plain _ _ _ _ _ _ (by simp) (by simp), Result.andThen_ok]
          simp only [hop]
          have : binOp .eql t (.slice u len cap) (.slice none 0 0) = (do pure (.bool (← Op.equal t (.slice u len cap) (.slice none 0 0)))) := rfl
          rw [this, Sem.run_bind, run_equal_slice_nil w t se u len cap h1]
          rfl
        have ofSl : ∀ {I : Nat → Prop} {x : Value} {ks : List CK} {l : List SV}, Conc I w x (.sl ks l) → ∃ u len cap, x = .slice u len cap ∧ (u.isNone = true → l = []) := fun {I x ks l} hc => by
          generalize hv : SV.sl ks l = v at hc
          cases hc <;> cases hv
          · exact ⟨_, _, _, rfl, fun _ => rfl⟩
          · exact ⟨_, _, _, rfl, fun h => by cases h⟩
        unfold nilCmp at hob hK
        cases op <;> first | exact hob.elim | skip
        cases hvz : ev s.tm z <;> simp only [hvz] at hob hK <;> try exact hob.elim
        rw [hvz] at hz
        cases hvy : ev s.tm y <;> simp only [hvy] at hob hK <;> try exact hob.elim
        · rename_i c ver
          rw [hvy] at hy
          obtain ⟨v', g1, g2⟩ := hy.inv_osl
          have hch := h.ch c
          cases hm : lkO s.mem c with
          | none => simp only [hm] at hob; exact hob.elim
          | some chk =>
            simp only [hm] at hob hK
            rw [hm] at g1 hch
            cases chk <;> simp only at hob hK <;> try exact hob.elim
            · rename_i v2 e2 ks l
              cases hq : Nat.beq v2 ver with
              | false => simp only [hq] at hob; exact hob.elim
              | true =>
                simp only [hq] at hob hK
                have p1 := Nat.eq_of_beq_eq_true hq
                subst p1
                simp only [verOf, Option.some.injEq] at g1
                have hxe := g2 g1
                obtain ⟨_, ⟨_, xs, t3, _⟩ | ⟨z1, _, ad, z3⟩⟩ := hch
                rotate_left
                · exact op_val h hd (key ad 0 0 rfl (hxe.trans z3) hz.inv_nilsl) (.conc _ _ (.nb _ _ fun _ => z1)) hK
                rw [← hxe] at t3
                rcases t3.2 with ⟨q1, q2⟩ | ⟨g, cap, cur, q1, _⟩
                · exact op_val h hd (key none 0 0 rfl q1 hz.inv_nilsl) (.conc _ _ (.nb _ _ fun _ => List.eq_nil_of_length_eq_zero q2)) hK
                · exact op_val h hd (key _ _ _ rfl q1 hz.inv_nilsl) (.conc _ _ (.nb _ _ fun h => by cases h)) hK
            · rename_i v2 ks l
              cases hq : Nat.beq v2 ver with
              | false => simp only [hq] at hob; exact hob.elim
              | true =>
                simp only [hq] at hob hK
                have p1 := Nat.eq_of_beq_eq_true hq
                subst p1
                simp only [verOf, Option.some.injEq] at g1
                have hxe := g2 g1
                have hch : Conc E.I w (E.cv c) (.sl ks l) := hch
                rw [← hxe] at hch
                obtain ⟨u, len, cap, e1, e2⟩ := ofSl hch
                exact op_val h hd (key u len cap rfl e1 hz.inv_nilsl) (.conc _ _ (.nb _ _ e2)) hK
        · rename_i ks l
          rw [hvy] at hy
          obtain ⟨u, len, cap, e1, e2⟩ := ofSl hy.inv_sl
          exact op_val h hd (key u len cap rfl e1 hz.inv_nilsl) (.conc _ _ (.nb _ _ e2)) hK
        · rw [hvy] at hy
          exact op_val h hd (key none 0 0 rfl hy.inv_nilsl hz.inv_nilsl) (.conc _ _ .tt) hK
      · -- a pointer and nil
        rename_i pe
        have hd2 := TkOk_ptr h2
        subst hd2
        have key : ∀ (u v : Option Addr), a.eval y = .pointer u → a.eval z = .pointer v → v = none → ∀ {neg : Bool}, op = (if neg then .neq else .eql) → (execOp a.eval o).run P w = .ok (.value (.bool (if neg then !u.isNone else u.isNone))) w := by
          intro u v e1 e2 e3 neg hop
          subst e3
          simp only [execOp, ho, e1, e2, Sem.run_bind]
          rw [eqGuard_plain _ _ _ _ _ _ (by simp) (by simp), Result.andThen_ok]
          have hq : (Op.equalIn (9999 + 1) t (.pointer u) (.pointer none)).run P w = .ok u.isNone w := by
            rw [run_equalIn_pointer_nil w 9999 t u (by rw [show P.pointee t = pe by simp [Program.pointee, h1]]; exact h1)]
          cases neg with
          | false =>
            simp only [hop, Bool.false_eq_true, if_false]
            have : binOp .eql t (.pointer u) (.pointer none) = (do pure (.bool (← Op.equal t (.pointer u) (.pointer none)))) := by cases u <;> rfl
            rw [this, Sem.run_bind, Op.equal, show Op.maxDepth = 9999 + 1 from rfl, hq]
            rfl
          | true =>
            simp only [hop, if_true]
            have : binOp .neq t (.pointer u) (.pointer none) = (do pure (.bool (!(← Op.equal t (.pointer u) (.pointer none))))) := by cases u <;> rfl
            rw [this, Sem.run_bind, Op.equal, show Op.maxDepth = 9999 + 1 from rfl, hq]
            rfl
        have nil : ∀ n, isNilP (ev s.tm y) = n → n ≠ .any → ∃ u : Option Addr, a.eval y = .pointer u ∧ CV E (lkO s.mem) w (.bool u.isNone) n := fun n hn hne => by
          unfold isNilP at hn
          split at hn
          · rename_i e1
            rw [e1] at hy
            subst hn
            exact ⟨none, hy.inv_nilp, .conc _ _ .tt⟩
          · rename_i e1
            rw [e1] at hy
            subst hn
            obtain ⟨b, p, e3, _⟩ := ep_add hy.inv_ep
            exact ⟨_, e3, .conc _ _ .ff⟩
          · rename_i e1
            rw [e1] at hy
            subst hn
            obtain ⟨b, t', cs, e3, _⟩ := hy.inv_ptr
            exact ⟨_, e3, .conc _ _ .ff⟩
          · rename_i b _ _ _ _ e1
            rw [e1] at hy
            subst hn
            obtain ⟨q1, q2⟩ := oep_inv hy.inv_oep
            cases b with
            | false => exact ⟨none, q1 rfl, .conc _ _ (.bool _)⟩
            | true =>
              obtain ⟨b, p, e3, _⟩ := ep_add (q2 rfl)
              exact ⟨_, e3, .conc _ _ (.bool _)⟩
          · exact absurd hn.symm hne
        have neg : ∀ (n : SV) (b : Bool), CV E (lkO s.mem) w (.bool b) n → CV E (lkO s.mem) w (.bool (!b)) (notV n) := fun n b hn => by
          cases n <;> first | exact .conc _ _ (.any _) | skip
          · have := hn.inv_bool; cases this; exact .conc _ _ (.bool _)
          · have := hn.inv_tt; cases this; exact .conc _ _ .ff
          · have := hn.inv_ff; cases this; exact .conc _ _ .tt
        unfold ptrCmp at hob hK
        split at hob
        · rename_i e2
          rw [e2] at hz
          rw [e2] at hK
          simp only at hK
          cases hne : anyB (isNilP (ev s.tm y)) with
          | true => rw [hne] at hob; exact hob.elim
          | false =>
            rw [hne] at hob hK
            obtain ⟨u, e3, e4⟩ := nil _ rfl (fun h => by rw [h] at hne; cases hne)
            cases op <;> first | exact hob.elim | skip
            · exact op_val h hd (key u none e3 hz.inv_nilp rfl (neg := false) rfl) e4 hK
            · exact op_val h hd (key u none e3 hz.inv_nilp rfl (neg := true) rfl) (neg _ _ e4) hK
        · exact hob.elim
end
end Go.Rx

