/-
  No cell of these rows narrows 'for every input' (looked for: loops, veiled, ifaces, maps, wideKeys, modest, calm, conditions, laid).
  DERIVED. THE GIVEN ROWS OF THIS SEAT. 6 by the template 'for every input the law returns true; each argument reads behind the call as it read before'; 0 by the template 'total and deterministic' (their statements: YtibdbmalmmokmaaTotals.lean).
  GIVEN WITH THE SEED: the statements are not yours to turn. If you find one false, say at which input.
  Laid BY PROGRAM, IN A SANDBOX (cutbox-rows.mjs): the forced cells as the released guide's own fill.sh prints them over the translation 584739dd120bcaef… (all of the seat's roots in one cut). By AI agents, Wed Nov 11 2026. No macro, syntax, notation, axiom, sorry.
-/
import Derived.Test.YtibdbmalmmokmaaChecked
import GoSem.Claim
import GoSem.ClaimJoined
import GoSem.ClaimMapViews
import Derived.JoinedTies
import Derived.KernelRfl
namespace Go.Proofs.Ytibdbmalmmokmaa
/- THE CELL 'sum', in the pinned program and in every row, IS THE sha256 OF THE DUMP (.gsa) THAT YtibdbmalmmokmaaProg.lean LOADS. Nothing in Lean hashes anything: it is a label: what it is worth is what the hold of that sum in a sandbox is worth. -/
noncomputable def Try.pinned : Pinned := { name := "ytibdbmalmmokmaa", sum := "584739dd120bcaef4b10155aca3e8f531205c29d41bc0b4fc612c9c20eb8a81a", checked := Try.checked }
namespace Rows
def none {H : Type} : Left H := { results := [], args := [] }

/-- 'stipendlaw25.PieceChecks': WHATEVER THE INPUT: true; the input reads as it did. -/
def pieceChecksSpec : ChangeSpec := { name := "pieceChecks", fn := fun _ => fun
  | [d1, d2] => { results := [.lit (.bool true)], args := [d1, d2] }
  | _ => none }
def pieceChecksRow : OpenClaim := { program := "ytibdbmalmmokmaa", sum := "584739dd120bcaef4b10155aca3e8f531205c29d41bc0b4fc612c9c20eb8a81a", func := "stipend/stipendlaw25.PieceChecks", spec := "pieceChecks", unfollowed := true, recurses := true, apart := false }
def PieceChecksSaid : Prop := pieceChecksRow.holds Try.pinned (OpenSpec.ofChange pieceChecksSpec)

/-- ITS FALSE NEIGHBOUR: 'it returns false'. Refute it at one input. -/
def pieceChecksWrong : ChangeSpec := { name := "pieceChecks", fn := fun _ => fun
  | [d1, d2] => { results := [.lit (.bool false)], args := [d1, d2] }
  | _ => none }
def PieceChecksWrongFalsely : Prop := pieceChecksRow.holds Try.pinned (OpenSpec.ofChange pieceChecksWrong)

/-- 'stipendlaw25.PieceAdds': WHATEVER THE INPUT: true; the input reads as it did. -/
def pieceAddsSpec : ChangeSpec := { name := "pieceAdds", fn := fun _ => fun
  | [d1, d2, d3] => { results := [.lit (.bool true)], args := [d1, d2, d3] }
  | _ => none }
def pieceAddsRow : OpenClaim := { program := "ytibdbmalmmokmaa", sum := "584739dd120bcaef4b10155aca3e8f531205c29d41bc0b4fc612c9c20eb8a81a", func := "stipend/stipendlaw25.PieceAdds", spec := "pieceAdds", unfollowed := true, recurses := true, apart := false }
def PieceAddsSaid : Prop := pieceAddsRow.holds Try.pinned (OpenSpec.ofChange pieceAddsSpec)

/-- ITS FALSE NEIGHBOUR: 'it returns false'. Refute it at one input. -/
def pieceAddsWrong : ChangeSpec := { name := "pieceAdds", fn := fun _ => fun
  | [d1, d2, d3] => { results := [.lit (.bool false)], args := [d1, d2, d3] }
  | _ => none }
def PieceAddsWrongFalsely : Prop := pieceAddsRow.holds Try.pinned (OpenSpec.ofChange pieceAddsWrong)

/-- 'stipendlaw25.PieceLeast': WHATEVER THE INPUT: true; the input reads as it did. -/
def pieceLeastSpec : ChangeSpec := { name := "pieceLeast", fn := fun _ => fun
  | [d1, d2, d3] => { results := [.lit (.bool true)], args := [d1, d2, d3] }
  | _ => none }
def pieceLeastRow : OpenClaim := { program := "ytibdbmalmmokmaa", sum := "584739dd120bcaef4b10155aca3e8f531205c29d41bc0b4fc612c9c20eb8a81a", func := "stipend/stipendlaw25.PieceLeast", spec := "pieceLeast", unfollowed := true, recurses := true, apart := false }
def PieceLeastSaid : Prop := pieceLeastRow.holds Try.pinned (OpenSpec.ofChange pieceLeastSpec)

/-- ITS FALSE NEIGHBOUR: 'it returns false'. Refute it at one input. -/
def pieceLeastWrong : ChangeSpec := { name := "pieceLeast", fn := fun _ => fun
  | [d1, d2, d3] => { results := [.lit (.bool false)], args := [d1, d2, d3] }
  | _ => none }
def PieceLeastWrongFalsely : Prop := pieceLeastRow.holds Try.pinned (OpenSpec.ofChange pieceLeastWrong)

/-- 'stipendlaw25.PieceReach': WHATEVER THE INPUT: true; the input reads as it did. -/
def pieceReachSpec : ChangeSpec := { name := "pieceReach", fn := fun _ => fun
  | [d1, d2] => { results := [.lit (.bool true)], args := [d1, d2] }
  | _ => none }
def pieceReachRow : OpenClaim := { program := "ytibdbmalmmokmaa", sum := "584739dd120bcaef4b10155aca3e8f531205c29d41bc0b4fc612c9c20eb8a81a", func := "stipend/stipendlaw25.PieceReach", spec := "pieceReach", unfollowed := true, recurses := true, apart := false }
def PieceReachSaid : Prop := pieceReachRow.holds Try.pinned (OpenSpec.ofChange pieceReachSpec)

/-- ITS FALSE NEIGHBOUR: 'it returns false'. Refute it at one input. -/
def pieceReachWrong : ChangeSpec := { name := "pieceReach", fn := fun _ => fun
  | [d1, d2] => { results := [.lit (.bool false)], args := [d1, d2] }
  | _ => none }
def PieceReachWrongFalsely : Prop := pieceReachRow.holds Try.pinned (OpenSpec.ofChange pieceReachWrong)

/-- 'stipendlaw25.PieceCorner': WHATEVER THE INPUT: true; the input reads as it did. -/
def pieceCornerSpec : ChangeSpec := { name := "pieceCorner", fn := fun _ => fun
  | [d1, d2, d3] => { results := [.lit (.bool true)], args := [d1, d2, d3] }
  | _ => none }
def pieceCornerRow : OpenClaim := { program := "ytibdbmalmmokmaa", sum := "584739dd120bcaef4b10155aca3e8f531205c29d41bc0b4fc612c9c20eb8a81a", func := "stipend/stipendlaw25.PieceCorner", spec := "pieceCorner", unfollowed := true, recurses := true, apart := false }
def PieceCornerSaid : Prop := pieceCornerRow.holds Try.pinned (OpenSpec.ofChange pieceCornerSpec)

/-- ITS FALSE NEIGHBOUR: 'it returns false'. Refute it at one input. -/
def pieceCornerWrong : ChangeSpec := { name := "pieceCorner", fn := fun _ => fun
  | [d1, d2, d3] => { results := [.lit (.bool false)], args := [d1, d2, d3] }
  | _ => none }
def PieceCornerWrongFalsely : Prop := pieceCornerRow.holds Try.pinned (OpenSpec.ofChange pieceCornerWrong)

/-- 'stipendlaw25.PieceShifts': WHATEVER THE INPUT: true; the input reads as it did. -/
def pieceShiftsSpec : ChangeSpec := { name := "pieceShifts", fn := fun _ => fun
  | [d1, d2, d3] => { results := [.lit (.bool true)], args := [d1, d2, d3] }
  | _ => none }
def pieceShiftsRow : OpenClaim := { program := "ytibdbmalmmokmaa", sum := "584739dd120bcaef4b10155aca3e8f531205c29d41bc0b4fc612c9c20eb8a81a", func := "stipend/stipendlaw25.PieceShifts", spec := "pieceShifts", unfollowed := true, recurses := true, apart := false }
def PieceShiftsSaid : Prop := pieceShiftsRow.holds Try.pinned (OpenSpec.ofChange pieceShiftsSpec)

/-- ITS FALSE NEIGHBOUR: 'it returns false'. Refute it at one input. -/
def pieceShiftsWrong : ChangeSpec := { name := "pieceShifts", fn := fun _ => fun
  | [d1, d2, d3] => { results := [.lit (.bool false)], args := [d1, d2, d3] }
  | _ => none }
def PieceShiftsWrongFalsely : Prop := pieceShiftsRow.holds Try.pinned (OpenSpec.ofChange pieceShiftsWrong)

/- THE SECOND FORM. 'bulk': how many values and letters a reading holds, each counted each time it is reached (what is shared counts as often as it is met; a slice's spare places count too). A statement '..UptoSaid' is the law's where the arguments, and the package variables that the reading takes, are together of bulk at most 1048576: NARROWER than '..Said'. Prove '..Said' where nothing that the law and all that it calls make is longer than what came in: it says more and counts as full. Else prove '..UptoSaid'. A law counts once. -/
mutual
def uptoBulk {H : Type} : DataW H → Nat
  | .lit (.string bytes) => bytes.length + 1
  | .lit _ => 1
  | .nil => 1
  | .ptr d => uptoBulk d + 1
  | .slice elems spare => uptoBulkAll elems + uptoBulkAll spare + 1
  | .agg parts => uptoBulkAll parts + 1
  | .iface _ d => uptoBulk d + 1
  | .map entries => uptoBulkEntries entries + 1
  | .held _ => 1
def uptoBulkAll {H : Type} : List (DataW H) → Nat
  | [] => 0
  | d :: r => uptoBulk d + uptoBulkAll r
def uptoBulkEntries {H : Type} : List (Lit × DataW H) → Nat
  | [] => 0
  | x :: r => uptoBulkEntry x + uptoBulkEntries r
def uptoBulkEntry {H : Type} : Lit × DataW H → Nat
  | (.string bytes, d) => bytes.length + uptoBulk d + 1
  | (_, d) => uptoBulk d + 1
 end
def uptoSmall : (H : Type) → List (DataW H) → Bool := fun _ ds => decide (uptoBulkAll ds ≤ 1048576)
def OpenSpec.upto (s : _root_.Go.ChangeSpec) : _root_.Go.OpenSpec := { _root_.Go.OpenSpec.ofChange s with cond := some uptoSmall }

/-- 'stipendlaw25.PieceChecks', WHERE WHAT IT READS IS OF BULK AT MOST 1048576: true; the input reads as it did. -/
def pieceChecksUptoRow : OpenClaim := { program := "ytibdbmalmmokmaa", sum := "584739dd120bcaef4b10155aca3e8f531205c29d41bc0b4fc612c9c20eb8a81a", func := "stipend/stipendlaw25.PieceChecks", spec := "pieceChecks", unfollowed := true, recurses := true, apart := false, narrowed := true }
def PieceChecksUptoSaid : Prop := pieceChecksUptoRow.holds Try.pinned (OpenSpec.upto pieceChecksSpec)

/-- 'stipendlaw25.PieceAdds', WHERE WHAT IT READS IS OF BULK AT MOST 1048576: true; the input reads as it did. -/
def pieceAddsUptoRow : OpenClaim := { program := "ytibdbmalmmokmaa", sum := "584739dd120bcaef4b10155aca3e8f531205c29d41bc0b4fc612c9c20eb8a81a", func := "stipend/stipendlaw25.PieceAdds", spec := "pieceAdds", unfollowed := true, recurses := true, apart := false, narrowed := true }
def PieceAddsUptoSaid : Prop := pieceAddsUptoRow.holds Try.pinned (OpenSpec.upto pieceAddsSpec)

/-- 'stipendlaw25.PieceLeast', WHERE WHAT IT READS IS OF BULK AT MOST 1048576: true; the input reads as it did. -/
def pieceLeastUptoRow : OpenClaim := { program := "ytibdbmalmmokmaa", sum := "584739dd120bcaef4b10155aca3e8f531205c29d41bc0b4fc612c9c20eb8a81a", func := "stipend/stipendlaw25.PieceLeast", spec := "pieceLeast", unfollowed := true, recurses := true, apart := false, narrowed := true }
def PieceLeastUptoSaid : Prop := pieceLeastUptoRow.holds Try.pinned (OpenSpec.upto pieceLeastSpec)

/-- 'stipendlaw25.PieceReach', WHERE WHAT IT READS IS OF BULK AT MOST 1048576: true; the input reads as it did. -/
def pieceReachUptoRow : OpenClaim := { program := "ytibdbmalmmokmaa", sum := "584739dd120bcaef4b10155aca3e8f531205c29d41bc0b4fc612c9c20eb8a81a", func := "stipend/stipendlaw25.PieceReach", spec := "pieceReach", unfollowed := true, recurses := true, apart := false, narrowed := true }
def PieceReachUptoSaid : Prop := pieceReachUptoRow.holds Try.pinned (OpenSpec.upto pieceReachSpec)

/-- 'stipendlaw25.PieceCorner', WHERE WHAT IT READS IS OF BULK AT MOST 1048576: true; the input reads as it did. -/
def pieceCornerUptoRow : OpenClaim := { program := "ytibdbmalmmokmaa", sum := "584739dd120bcaef4b10155aca3e8f531205c29d41bc0b4fc612c9c20eb8a81a", func := "stipend/stipendlaw25.PieceCorner", spec := "pieceCorner", unfollowed := true, recurses := true, apart := false, narrowed := true }
def PieceCornerUptoSaid : Prop := pieceCornerUptoRow.holds Try.pinned (OpenSpec.upto pieceCornerSpec)

/-- 'stipendlaw25.PieceShifts', WHERE WHAT IT READS IS OF BULK AT MOST 1048576: true; the input reads as it did. -/
def pieceShiftsUptoRow : OpenClaim := { program := "ytibdbmalmmokmaa", sum := "584739dd120bcaef4b10155aca3e8f531205c29d41bc0b4fc612c9c20eb8a81a", func := "stipend/stipendlaw25.PieceShifts", spec := "pieceShifts", unfollowed := true, recurses := true, apart := false, narrowed := true }
def PieceShiftsUptoSaid : Prop := pieceShiftsUptoRow.holds Try.pinned (OpenSpec.upto pieceShiftsSpec)

end Rows
end Go.Proofs.Ytibdbmalmmokmaa
