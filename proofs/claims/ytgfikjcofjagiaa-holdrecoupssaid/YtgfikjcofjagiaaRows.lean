/-
  No cell of these rows narrows 'for every input' (looked for: loops, veiled, ifaces, maps, wideKeys, modest, calm, conditions, laid).
  DERIVED. THE GIVEN ROWS OF THIS SEAT. 5 by the template 'for every input the law returns true; each argument reads behind the call as it read before'; 0 by the template 'total and deterministic' (their statements: YtgfikjcofjagiaaTotals.lean).
  GIVEN WITH THE SEED: the statements are not yours to turn. If you find one false, say at which input.
  Laid BY PROGRAM, IN A SANDBOX (cutbox-rows.mjs): the forced cells as the released guide's own fill.sh prints them over the translation 637b0a4a085e761f… (all of the seat's roots in one cut). By AI agents, Wed Nov 11 2026. No macro, syntax, notation, axiom, sorry.
-/
import Derived.Test.YtgfikjcofjagiaaChecked
import GoSem.Claim
import GoSem.ClaimJoined
import GoSem.ClaimMapViews
import Derived.JoinedTies
import Derived.KernelRfl
namespace Go.Proofs.Ytgfikjcofjagiaa
/- THE CELL 'sum', in the pinned program and in every row, IS THE sha256 OF THE DUMP (.gsa) THAT YtgfikjcofjagiaaProg.lean LOADS. Nothing in Lean hashes anything: it is a label: what it is worth is what the hold of that sum in a sandbox is worth. -/
noncomputable def Try.pinned : Pinned := { name := "ytgfikjcofjagiaa", sum := "637b0a4a085e761fd51ecfb238f639ad4152c572f2e09301944f18735f7f0170", checked := Try.checked }
namespace Rows
def none {H : Type} : Left H := { results := [], args := [] }

/-- 'stipendlaw14.HoldSteps': WHATEVER THE INPUT: true; the input reads as it did. -/
def holdStepsSpec : ChangeSpec := { name := "holdSteps", fn := fun _ => fun
  | [d1, d2, d3] => { results := [.lit (.bool true)], args := [d1, d2, d3] }
  | _ => none }
def holdStepsRow : OpenClaim := { program := "ytgfikjcofjagiaa", sum := "637b0a4a085e761fd51ecfb238f639ad4152c572f2e09301944f18735f7f0170", func := "stipend/stipendlaw14.HoldSteps", spec := "holdSteps", apart := false }
def HoldStepsSaid : Prop := holdStepsRow.holds Try.pinned (OpenSpec.ofChange holdStepsSpec)

/-- ITS FALSE NEIGHBOUR: 'it returns false'. Refute it at one input. -/
def holdStepsWrong : ChangeSpec := { name := "holdSteps", fn := fun _ => fun
  | [d1, d2, d3] => { results := [.lit (.bool false)], args := [d1, d2, d3] }
  | _ => none }
def HoldStepsWrongFalsely : Prop := holdStepsRow.holds Try.pinned (OpenSpec.ofChange holdStepsWrong)

/-- 'stipendlaw14.HoldYear': WHATEVER THE INPUT: true; the input reads as it did. -/
def holdYearSpec : ChangeSpec := { name := "holdYear", fn := fun _ => fun
  | [d1, d2] => { results := [.lit (.bool true)], args := [d1, d2] }
  | _ => none }
def holdYearRow : OpenClaim := { program := "ytgfikjcofjagiaa", sum := "637b0a4a085e761fd51ecfb238f639ad4152c572f2e09301944f18735f7f0170", func := "stipend/stipendlaw14.HoldYear", spec := "holdYear", apart := false }
def HoldYearSaid : Prop := holdYearRow.holds Try.pinned (OpenSpec.ofChange holdYearSpec)

/-- ITS FALSE NEIGHBOUR: 'it returns false'. Refute it at one input. -/
def holdYearWrong : ChangeSpec := { name := "holdYear", fn := fun _ => fun
  | [d1, d2] => { results := [.lit (.bool false)], args := [d1, d2] }
  | _ => none }
def HoldYearWrongFalsely : Prop := holdYearRow.holds Try.pinned (OpenSpec.ofChange holdYearWrong)

/-- 'stipendlaw14.HoldLimit': WHATEVER THE INPUT: true; the input reads as it did. -/
def holdLimitSpec : ChangeSpec := { name := "holdLimit", fn := fun _ => fun
  | [d1, d2] => { results := [.lit (.bool true)], args := [d1, d2] }
  | _ => none }
def holdLimitRow : OpenClaim := { program := "ytgfikjcofjagiaa", sum := "637b0a4a085e761fd51ecfb238f639ad4152c572f2e09301944f18735f7f0170", func := "stipend/stipendlaw14.HoldLimit", spec := "holdLimit", apart := false }
def HoldLimitSaid : Prop := holdLimitRow.holds Try.pinned (OpenSpec.ofChange holdLimitSpec)

/-- ITS FALSE NEIGHBOUR: 'it returns false'. Refute it at one input. -/
def holdLimitWrong : ChangeSpec := { name := "holdLimit", fn := fun _ => fun
  | [d1, d2] => { results := [.lit (.bool false)], args := [d1, d2] }
  | _ => none }
def HoldLimitWrongFalsely : Prop := holdLimitRow.holds Try.pinned (OpenSpec.ofChange holdLimitWrong)

/-- 'stipendlaw14.HoldRises': WHATEVER THE INPUT: true; the input reads as it did. -/
def holdRisesSpec : ChangeSpec := { name := "holdRises", fn := fun _ => fun
  | [d1, d2, d3] => { results := [.lit (.bool true)], args := [d1, d2, d3] }
  | _ => none }
def holdRisesRow : OpenClaim := { program := "ytgfikjcofjagiaa", sum := "637b0a4a085e761fd51ecfb238f639ad4152c572f2e09301944f18735f7f0170", func := "stipend/stipendlaw14.HoldRises", spec := "holdRises", apart := false }
def HoldRisesSaid : Prop := holdRisesRow.holds Try.pinned (OpenSpec.ofChange holdRisesSpec)

/-- ITS FALSE NEIGHBOUR: 'it returns false'. Refute it at one input. -/
def holdRisesWrong : ChangeSpec := { name := "holdRises", fn := fun _ => fun
  | [d1, d2, d3] => { results := [.lit (.bool false)], args := [d1, d2, d3] }
  | _ => none }
def HoldRisesWrongFalsely : Prop := holdRisesRow.holds Try.pinned (OpenSpec.ofChange holdRisesWrong)

/-- 'stipendlaw14.HoldRecoups': WHATEVER THE INPUT: true; the input reads as it did. -/
def holdRecoupsSpec : ChangeSpec := { name := "holdRecoups", fn := fun _ => fun
  | [d1, d2, d3] => { results := [.lit (.bool true)], args := [d1, d2, d3] }
  | _ => none }
def holdRecoupsRow : OpenClaim := { program := "ytgfikjcofjagiaa", sum := "637b0a4a085e761fd51ecfb238f639ad4152c572f2e09301944f18735f7f0170", func := "stipend/stipendlaw14.HoldRecoups", spec := "holdRecoups", apart := false }
def HoldRecoupsSaid : Prop := holdRecoupsRow.holds Try.pinned (OpenSpec.ofChange holdRecoupsSpec)

/-- ITS FALSE NEIGHBOUR: 'it returns false'. Refute it at one input. -/
def holdRecoupsWrong : ChangeSpec := { name := "holdRecoups", fn := fun _ => fun
  | [d1, d2, d3] => { results := [.lit (.bool false)], args := [d1, d2, d3] }
  | _ => none }
def HoldRecoupsWrongFalsely : Prop := holdRecoupsRow.holds Try.pinned (OpenSpec.ofChange holdRecoupsWrong)

/- THE SECOND FORM. 'bulk': how many values and letters a reading holds, each counted each time it is reached (what is shared counts as often as it is met; a slice's spare places count too). A statement '..UptoSaid' is the law's where the arguments, and the package variables that the reading takes, are together of bulk at most 1048576: NARROWER than '..Said'. Prove '..Said' where nothing that the law and all that it calls make is longer than what came in: it says more and counts as full. Else prove '..UptoSaid'. A law counts once. -/
mutual
def uptoBulk {H : Type} : DataW H → Nat
  | .lit (.string bytes) => bytes.length + 1
  | .lit _ => 1
  | .nil => 1
  | .ptr d => uptoBulk d + 1
  | .slice elems spare => uptoBulkAll elems + uptoBulkAll spare + 1
  | .agg parts => uptoBulkAll parts + 1
  | .iface _ d => uptoBulk d + 1
  | .map entries => uptoBulkEntries entries + 1
  | .held _ => 1
def uptoBulkAll {H : Type} : List (DataW H) → Nat
  | [] => 0
  | d :: r => uptoBulk d + uptoBulkAll r
def uptoBulkEntries {H : Type} : List (Lit × DataW H) → Nat
  | [] => 0
  | x :: r => uptoBulkEntry x + uptoBulkEntries r
def uptoBulkEntry {H : Type} : Lit × DataW H → Nat
  | (.string bytes, d) => bytes.length + uptoBulk d + 1
  | (_, d) => uptoBulk d + 1
 end
def uptoSmall : (H : Type) → List (DataW H) → Bool := fun _ ds => decide (uptoBulkAll ds ≤ 1048576)
def OpenSpec.upto (s : _root_.Go.ChangeSpec) : _root_.Go.OpenSpec := { _root_.Go.OpenSpec.ofChange s with cond := some uptoSmall }

/-- 'stipendlaw14.HoldSteps', WHERE WHAT IT READS IS OF BULK AT MOST 1048576: true; the input reads as it did. -/
def holdStepsUptoRow : OpenClaim := { program := "ytgfikjcofjagiaa", sum := "637b0a4a085e761fd51ecfb238f639ad4152c572f2e09301944f18735f7f0170", func := "stipend/stipendlaw14.HoldSteps", spec := "holdSteps", apart := false, narrowed := true }
def HoldStepsUptoSaid : Prop := holdStepsUptoRow.holds Try.pinned (OpenSpec.upto holdStepsSpec)

/-- 'stipendlaw14.HoldYear', WHERE WHAT IT READS IS OF BULK AT MOST 1048576: true; the input reads as it did. -/
def holdYearUptoRow : OpenClaim := { program := "ytgfikjcofjagiaa", sum := "637b0a4a085e761fd51ecfb238f639ad4152c572f2e09301944f18735f7f0170", func := "stipend/stipendlaw14.HoldYear", spec := "holdYear", apart := false, narrowed := true }
def HoldYearUptoSaid : Prop := holdYearUptoRow.holds Try.pinned (OpenSpec.upto holdYearSpec)

/-- 'stipendlaw14.HoldLimit', WHERE WHAT IT READS IS OF BULK AT MOST 1048576: true; the input reads as it did. -/
def holdLimitUptoRow : OpenClaim := { program := "ytgfikjcofjagiaa", sum := "637b0a4a085e761fd51ecfb238f639ad4152c572f2e09301944f18735f7f0170", func := "stipend/stipendlaw14.HoldLimit", spec := "holdLimit", apart := false, narrowed := true }
def HoldLimitUptoSaid : Prop := holdLimitUptoRow.holds Try.pinned (OpenSpec.upto holdLimitSpec)

/-- 'stipendlaw14.HoldRises', WHERE WHAT IT READS IS OF BULK AT MOST 1048576: true; the input reads as it did. -/
def holdRisesUptoRow : OpenClaim := { program := "ytgfikjcofjagiaa", sum := "637b0a4a085e761fd51ecfb238f639ad4152c572f2e09301944f18735f7f0170", func := "stipend/stipendlaw14.HoldRises", spec := "holdRises", apart := false, narrowed := true }
def HoldRisesUptoSaid : Prop := holdRisesUptoRow.holds Try.pinned (OpenSpec.upto holdRisesSpec)

/-- 'stipendlaw14.HoldRecoups', WHERE WHAT IT READS IS OF BULK AT MOST 1048576: true; the input reads as it did. -/
def holdRecoupsUptoRow : OpenClaim := { program := "ytgfikjcofjagiaa", sum := "637b0a4a085e761fd51ecfb238f639ad4152c572f2e09301944f18735f7f0170", func := "stipend/stipendlaw14.HoldRecoups", spec := "holdRecoups", apart := false, narrowed := true }
def HoldRecoupsUptoSaid : Prop := holdRecoupsUptoRow.holds Try.pinned (OpenSpec.upto holdRecoupsSpec)

end Rows
end Go.Proofs.Ytgfikjcofjagiaa
