/-
  No cell of these rows narrows 'for every input' (looked for: loops, veiled, ifaces, maps, wideKeys, modest, calm, conditions, laid).
  DERIVED. THE GIVEN ROWS OF THIS SEAT. 6 by the template 'for every input the law returns true; each argument reads behind the call as it read before'; 0 by the template 'total and deterministic' (their statements: YthjeobgholddnaaTotals.lean).
  GIVEN WITH THE SEED: the statements are not yours to turn. If you find one false, say at which input.
  Laid BY PROGRAM, IN A SANDBOX (cutbox-rows.mjs): the forced cells as the released guide's own fill.sh prints them over the translation 8e9ac293590eb28e… (all of the seat's roots in one cut). By AI agents, Wed Nov 11 2026. No macro, syntax, notation, axiom, sorry.
-/
import Derived.Test.YthjeobgholddnaaChecked
import GoSem.Claim
import GoSem.ClaimJoined
import GoSem.ClaimMapViews
import Derived.JoinedTies
import Derived.KernelRfl
namespace Go.Proofs.Ythjeobgholddnaa
/- THE CELL 'sum', in the pinned program and in every row, IS THE sha256 OF THE DUMP (.gsa) THAT YthjeobgholddnaaProg.lean LOADS. Nothing in Lean hashes anything: it is a label: what it is worth is what the hold of that sum in a sandbox is worth. -/
noncomputable def Try.pinned : Pinned := { name := "ythjeobgholddnaa", sum := "8e9ac293590eb28e007fb703804b6c4c4c25d2dcda4596da76fef6d08d861dad", checked := Try.checked }
namespace Rows
def none {H : Type} : Left H := { results := [], args := [] }

/-- 'stipendtop.WholeBands': WHATEVER THE INPUT: true; the input reads as it did. -/
def wholeBandsSpec : ChangeSpec := { name := "wholeBands", fn := fun _ => fun
  | [d1, d2, d3] => { results := [.lit (.bool true)], args := [d1, d2, d3] }
  | _ => none }
def wholeBandsRow : OpenClaim := { program := "ythjeobgholddnaa", sum := "8e9ac293590eb28e007fb703804b6c4c4c25d2dcda4596da76fef6d08d861dad", func := "stipend/stipendtop.WholeBands", spec := "wholeBands", unfollowed := true, recurses := true, apart := false }
def WholeBandsSaid : Prop := wholeBandsRow.holds Try.pinned (OpenSpec.ofChange wholeBandsSpec)

/-- ITS FALSE NEIGHBOUR: 'it returns false'. Refute it at one input. -/
def wholeBandsWrong : ChangeSpec := { name := "wholeBands", fn := fun _ => fun
  | [d1, d2, d3] => { results := [.lit (.bool false)], args := [d1, d2, d3] }
  | _ => none }
def WholeBandsWrongFalsely : Prop := wholeBandsRow.holds Try.pinned (OpenSpec.ofChange wholeBandsWrong)

/-- 'stipendlaw05.BandChecks': WHATEVER THE INPUT: true; the input reads as it did. -/
def bandChecksSpec : ChangeSpec := { name := "bandChecks", fn := fun _ => fun
  | [d1, d2] => { results := [.lit (.bool true)], args := [d1, d2] }
  | _ => none }
def bandChecksRow : OpenClaim := { program := "ythjeobgholddnaa", sum := "8e9ac293590eb28e007fb703804b6c4c4c25d2dcda4596da76fef6d08d861dad", func := "stipend/stipendlaw05.BandChecks", spec := "bandChecks", unfollowed := true, recurses := true, apart := false }
def BandChecksSaid : Prop := bandChecksRow.holds Try.pinned (OpenSpec.ofChange bandChecksSpec)

/-- ITS FALSE NEIGHBOUR: 'it returns false'. Refute it at one input. -/
def bandChecksWrong : ChangeSpec := { name := "bandChecks", fn := fun _ => fun
  | [d1, d2] => { results := [.lit (.bool false)], args := [d1, d2] }
  | _ => none }
def BandChecksWrongFalsely : Prop := bandChecksRow.holds Try.pinned (OpenSpec.ofChange bandChecksWrong)

/-- 'stipendlaw05.BandExact': WHATEVER THE INPUT: true; the input reads as it did. -/
def bandExactSpec : ChangeSpec := { name := "bandExact", fn := fun _ => fun
  | [d1, d2] => { results := [.lit (.bool true)], args := [d1, d2] }
  | _ => none }
def bandExactRow : OpenClaim := { program := "ythjeobgholddnaa", sum := "8e9ac293590eb28e007fb703804b6c4c4c25d2dcda4596da76fef6d08d861dad", func := "stipend/stipendlaw05.BandExact", spec := "bandExact", unfollowed := true, recurses := true, apart := false }
def BandExactSaid : Prop := bandExactRow.holds Try.pinned (OpenSpec.ofChange bandExactSpec)

/-- ITS FALSE NEIGHBOUR: 'it returns false'. Refute it at one input. -/
def bandExactWrong : ChangeSpec := { name := "bandExact", fn := fun _ => fun
  | [d1, d2] => { results := [.lit (.bool false)], args := [d1, d2] }
  | _ => none }
def BandExactWrongFalsely : Prop := bandExactRow.holds Try.pinned (OpenSpec.ofChange bandExactWrong)

/-- 'stipendlaw05.BandRises': WHATEVER THE INPUT: true; the input reads as it did. -/
def bandRisesSpec : ChangeSpec := { name := "bandRises", fn := fun _ => fun
  | [d1, d2, d3] => { results := [.lit (.bool true)], args := [d1, d2, d3] }
  | _ => none }
def bandRisesRow : OpenClaim := { program := "ythjeobgholddnaa", sum := "8e9ac293590eb28e007fb703804b6c4c4c25d2dcda4596da76fef6d08d861dad", func := "stipend/stipendlaw05.BandRises", spec := "bandRises", unfollowed := true, recurses := true, apart := false }
def BandRisesSaid : Prop := bandRisesRow.holds Try.pinned (OpenSpec.ofChange bandRisesSpec)

/-- ITS FALSE NEIGHBOUR: 'it returns false'. Refute it at one input. -/
def bandRisesWrong : ChangeSpec := { name := "bandRises", fn := fun _ => fun
  | [d1, d2, d3] => { results := [.lit (.bool false)], args := [d1, d2, d3] }
  | _ => none }
def BandRisesWrongFalsely : Prop := bandRisesRow.holds Try.pinned (OpenSpec.ofChange bandRisesWrong)

/-- 'stipendlaw05.BandScales': WHATEVER THE INPUT: true; the input reads as it did. -/
def bandScalesSpec : ChangeSpec := { name := "bandScales", fn := fun _ => fun
  | [d1, d2, d3] => { results := [.lit (.bool true)], args := [d1, d2, d3] }
  | _ => none }
def bandScalesRow : OpenClaim := { program := "ythjeobgholddnaa", sum := "8e9ac293590eb28e007fb703804b6c4c4c25d2dcda4596da76fef6d08d861dad", func := "stipend/stipendlaw05.BandScales", spec := "bandScales", unfollowed := true, recurses := true, apart := false }
def BandScalesSaid : Prop := bandScalesRow.holds Try.pinned (OpenSpec.ofChange bandScalesSpec)

/-- ITS FALSE NEIGHBOUR: 'it returns false'. Refute it at one input. -/
def bandScalesWrong : ChangeSpec := { name := "bandScales", fn := fun _ => fun
  | [d1, d2, d3] => { results := [.lit (.bool false)], args := [d1, d2, d3] }
  | _ => none }
def BandScalesWrongFalsely : Prop := bandScalesRow.holds Try.pinned (OpenSpec.ofChange bandScalesWrong)

/-- 'stipendlaw05.BandJoins': WHATEVER THE INPUT: true; the input reads as it did. -/
def bandJoinsSpec : ChangeSpec := { name := "bandJoins", fn := fun _ => fun
  | [d1, d2] => { results := [.lit (.bool true)], args := [d1, d2] }
  | _ => none }
def bandJoinsRow : OpenClaim := { program := "ythjeobgholddnaa", sum := "8e9ac293590eb28e007fb703804b6c4c4c25d2dcda4596da76fef6d08d861dad", func := "stipend/stipendlaw05.BandJoins", spec := "bandJoins", unfollowed := true, recurses := true, apart := false }
def BandJoinsSaid : Prop := bandJoinsRow.holds Try.pinned (OpenSpec.ofChange bandJoinsSpec)

/-- ITS FALSE NEIGHBOUR: 'it returns false'. Refute it at one input. -/
def bandJoinsWrong : ChangeSpec := { name := "bandJoins", fn := fun _ => fun
  | [d1, d2] => { results := [.lit (.bool false)], args := [d1, d2] }
  | _ => none }
def BandJoinsWrongFalsely : Prop := bandJoinsRow.holds Try.pinned (OpenSpec.ofChange bandJoinsWrong)

/- THE SECOND FORM. 'bulk': how many values and letters a reading holds, each counted each time it is reached (what is shared counts as often as it is met; a slice's spare places count too). A statement '..UptoSaid' is the law's where the arguments, and the package variables that the reading takes, are together of bulk at most 1048576: NARROWER than '..Said'. Prove '..Said' where nothing that the law and all that it calls make is longer than what came in: it says more and counts as full. Else prove '..UptoSaid'. A law counts once. -/
mutual
def uptoBulk {H : Type} : DataW H → Nat
  | .lit (.string bytes) => bytes.length + 1
  | .lit _ => 1
  | .nil => 1
  | .ptr d => uptoBulk d + 1
  | .slice elems spare => uptoBulkAll elems + uptoBulkAll spare + 1
  | .agg parts => uptoBulkAll parts + 1
  | .iface _ d => uptoBulk d + 1
  | .map entries => uptoBulkEntries entries + 1
  | .held _ => 1
def uptoBulkAll {H : Type} : List (DataW H) → Nat
  | [] => 0
  | d :: r => uptoBulk d + uptoBulkAll r
def uptoBulkEntries {H : Type} : List (Lit × DataW H) → Nat
  | [] => 0
  | x :: r => uptoBulkEntry x + uptoBulkEntries r
def uptoBulkEntry {H : Type} : Lit × DataW H → Nat
  | (.string bytes, d) => bytes.length + uptoBulk d + 1
  | (_, d) => uptoBulk d + 1
 end
def uptoSmall : (H : Type) → List (DataW H) → Bool := fun _ ds => decide (uptoBulkAll ds ≤ 1048576)
def OpenSpec.upto (s : _root_.Go.ChangeSpec) : _root_.Go.OpenSpec := { _root_.Go.OpenSpec.ofChange s with cond := some uptoSmall }

/-- 'stipendtop.WholeBands', WHERE WHAT IT READS IS OF BULK AT MOST 1048576: true; the input reads as it did. -/
def wholeBandsUptoRow : OpenClaim := { program := "ythjeobgholddnaa", sum := "8e9ac293590eb28e007fb703804b6c4c4c25d2dcda4596da76fef6d08d861dad", func := "stipend/stipendtop.WholeBands", spec := "wholeBands", unfollowed := true, recurses := true, apart := false, narrowed := true }
def WholeBandsUptoSaid : Prop := wholeBandsUptoRow.holds Try.pinned (OpenSpec.upto wholeBandsSpec)

/-- 'stipendlaw05.BandChecks', WHERE WHAT IT READS IS OF BULK AT MOST 1048576: true; the input reads as it did. -/
def bandChecksUptoRow : OpenClaim := { program := "ythjeobgholddnaa", sum := "8e9ac293590eb28e007fb703804b6c4c4c25d2dcda4596da76fef6d08d861dad", func := "stipend/stipendlaw05.BandChecks", spec := "bandChecks", unfollowed := true, recurses := true, apart := false, narrowed := true }
def BandChecksUptoSaid : Prop := bandChecksUptoRow.holds Try.pinned (OpenSpec.upto bandChecksSpec)

/-- 'stipendlaw05.BandExact', WHERE WHAT IT READS IS OF BULK AT MOST 1048576: true; the input reads as it did. -/
def bandExactUptoRow : OpenClaim := { program := "ythjeobgholddnaa", sum := "8e9ac293590eb28e007fb703804b6c4c4c25d2dcda4596da76fef6d08d861dad", func := "stipend/stipendlaw05.BandExact", spec := "bandExact", unfollowed := true, recurses := true, apart := false, narrowed := true }
def BandExactUptoSaid : Prop := bandExactUptoRow.holds Try.pinned (OpenSpec.upto bandExactSpec)

/-- 'stipendlaw05.BandRises', WHERE WHAT IT READS IS OF BULK AT MOST 1048576: true; the input reads as it did. -/
def bandRisesUptoRow : OpenClaim := { program := "ythjeobgholddnaa", sum := "8e9ac293590eb28e007fb703804b6c4c4c25d2dcda4596da76fef6d08d861dad", func := "stipend/stipendlaw05.BandRises", spec := "bandRises", unfollowed := true, recurses := true, apart := false, narrowed := true }
def BandRisesUptoSaid : Prop := bandRisesUptoRow.holds Try.pinned (OpenSpec.upto bandRisesSpec)

/-- 'stipendlaw05.BandScales', WHERE WHAT IT READS IS OF BULK AT MOST 1048576: true; the input reads as it did. -/
def bandScalesUptoRow : OpenClaim := { program := "ythjeobgholddnaa", sum := "8e9ac293590eb28e007fb703804b6c4c4c25d2dcda4596da76fef6d08d861dad", func := "stipend/stipendlaw05.BandScales", spec := "bandScales", unfollowed := true, recurses := true, apart := false, narrowed := true }
def BandScalesUptoSaid : Prop := bandScalesUptoRow.holds Try.pinned (OpenSpec.upto bandScalesSpec)

/-- 'stipendlaw05.BandJoins', WHERE WHAT IT READS IS OF BULK AT MOST 1048576: true; the input reads as it did. -/
def bandJoinsUptoRow : OpenClaim := { program := "ythjeobgholddnaa", sum := "8e9ac293590eb28e007fb703804b6c4c4c25d2dcda4596da76fef6d08d861dad", func := "stipend/stipendlaw05.BandJoins", spec := "bandJoins", unfollowed := true, recurses := true, apart := false, narrowed := true }
def BandJoinsUptoSaid : Prop := bandJoinsUptoRow.holds Try.pinned (OpenSpec.upto bandJoinsSpec)

end Rows
end Go.Proofs.Ythjeobgholddnaa
