/-
  No cell of these rows narrows 'for every input' (looked for: loops, veiled, ifaces, maps, wideKeys, modest, calm, conditions, laid).
  DERIVED. THE GIVEN ROWS OF THIS SEAT. 7 by the template 'for every input the law returns true; each argument reads behind the call as it read before'; 0 by the template 'total and deterministic' (their statements: YtfjcjbmamdfhoaaTotals.lean).
  GIVEN WITH THE SEED: the statements are not yours to turn. If you find one false, say at which input.
  Laid BY PROGRAM, IN A SANDBOX (cutbox-rows.mjs): the forced cells as the released guide's own fill.sh prints them over the translation 1aeba927de83ea65… (all of the seat's roots in one cut). By AI agents, Wed Nov 11 2026. No macro, syntax, notation, axiom, sorry.
-/
import Derived.Test.YtfjcjbmamdfhoaaChecked
import GoSem.Claim
import GoSem.ClaimJoined
import GoSem.ClaimMapViews
import Derived.JoinedTies
import Derived.KernelRfl
namespace Go.Proofs.Ytfjcjbmamdfhoaa
/- THE CELL 'sum', in the pinned program and in every row, IS THE sha256 OF THE DUMP (.gsa) THAT YtfjcjbmamdfhoaaProg.lean LOADS. Nothing in Lean hashes anything: it is a label: what it is worth is what the hold of that sum in a sandbox is worth. -/
noncomputable def Try.pinned : Pinned := { name := "ytfjcjbmamdfhoaa", sum := "1aeba927de83ea651a0e05926272ac647f1e7095ba16c7fc5e4a3c825c0b79ac", checked := Try.checked }
namespace Rows
def none {H : Type} : Left H := { results := [], args := [] }

/-- 'stipendlaw04.PeriodMakes': WHATEVER THE INPUT: true; the input reads as it did. -/
def periodMakesSpec : ChangeSpec := { name := "periodMakes", fn := fun _ => fun
  | [d1, d2] => { results := [.lit (.bool true)], args := [d1, d2] }
  | _ => none }
def periodMakesRow : OpenClaim := { program := "ytfjcjbmamdfhoaa", sum := "1aeba927de83ea651a0e05926272ac647f1e7095ba16c7fc5e4a3c825c0b79ac", func := "stipend/stipendlaw04.PeriodMakes", spec := "periodMakes", apart := false }
def PeriodMakesSaid : Prop := periodMakesRow.holds Try.pinned (OpenSpec.ofChange periodMakesSpec)

/-- ITS FALSE NEIGHBOUR: 'it returns false'. Refute it at one input. -/
def periodMakesWrong : ChangeSpec := { name := "periodMakes", fn := fun _ => fun
  | [d1, d2] => { results := [.lit (.bool false)], args := [d1, d2] }
  | _ => none }
def PeriodMakesWrongFalsely : Prop := periodMakesRow.holds Try.pinned (OpenSpec.ofChange periodMakesWrong)

/-- 'stipendlaw04.PeriodWeeks': WHATEVER THE INPUT: true; the input reads as it did. -/
def periodWeeksSpec : ChangeSpec := { name := "periodWeeks", fn := fun _ => fun
  | [d1, d2, d3] => { results := [.lit (.bool true)], args := [d1, d2, d3] }
  | _ => none }
def periodWeeksRow : OpenClaim := { program := "ytfjcjbmamdfhoaa", sum := "1aeba927de83ea651a0e05926272ac647f1e7095ba16c7fc5e4a3c825c0b79ac", func := "stipend/stipendlaw04.PeriodWeeks", spec := "periodWeeks", apart := false }
def PeriodWeeksSaid : Prop := periodWeeksRow.holds Try.pinned (OpenSpec.ofChange periodWeeksSpec)

/-- ITS FALSE NEIGHBOUR: 'it returns false'. Refute it at one input. -/
def periodWeeksWrong : ChangeSpec := { name := "periodWeeks", fn := fun _ => fun
  | [d1, d2, d3] => { results := [.lit (.bool false)], args := [d1, d2, d3] }
  | _ => none }
def PeriodWeeksWrongFalsely : Prop := periodWeeksRow.holds Try.pinned (OpenSpec.ofChange periodWeeksWrong)

/-- 'stipendlaw04.PeriodOutside': WHATEVER THE INPUT: true; the input reads as it did. -/
def periodOutsideSpec : ChangeSpec := { name := "periodOutside", fn := fun _ => fun
  | [d1, d2, d3] => { results := [.lit (.bool true)], args := [d1, d2, d3] }
  | _ => none }
def periodOutsideRow : OpenClaim := { program := "ytfjcjbmamdfhoaa", sum := "1aeba927de83ea651a0e05926272ac647f1e7095ba16c7fc5e4a3c825c0b79ac", func := "stipend/stipendlaw04.PeriodOutside", spec := "periodOutside", apart := false }
def PeriodOutsideSaid : Prop := periodOutsideRow.holds Try.pinned (OpenSpec.ofChange periodOutsideSpec)

/-- ITS FALSE NEIGHBOUR: 'it returns false'. Refute it at one input. -/
def periodOutsideWrong : ChangeSpec := { name := "periodOutside", fn := fun _ => fun
  | [d1, d2, d3] => { results := [.lit (.bool false)], args := [d1, d2, d3] }
  | _ => none }
def PeriodOutsideWrongFalsely : Prop := periodOutsideRow.holds Try.pinned (OpenSpec.ofChange periodOutsideWrong)

/-- 'stipendlaw04.PeriodCovers': WHATEVER THE INPUT: true; the input reads as it did. -/
def periodCoversSpec : ChangeSpec := { name := "periodCovers", fn := fun _ => fun
  | [d1, d2, d3] => { results := [.lit (.bool true)], args := [d1, d2, d3] }
  | _ => none }
def periodCoversRow : OpenClaim := { program := "ytfjcjbmamdfhoaa", sum := "1aeba927de83ea651a0e05926272ac647f1e7095ba16c7fc5e4a3c825c0b79ac", func := "stipend/stipendlaw04.PeriodCovers", spec := "periodCovers", apart := false }
def PeriodCoversSaid : Prop := periodCoversRow.holds Try.pinned (OpenSpec.ofChange periodCoversSpec)

/-- ITS FALSE NEIGHBOUR: 'it returns false'. Refute it at one input. -/
def periodCoversWrong : ChangeSpec := { name := "periodCovers", fn := fun _ => fun
  | [d1, d2, d3] => { results := [.lit (.bool false)], args := [d1, d2, d3] }
  | _ => none }
def PeriodCoversWrongFalsely : Prop := periodCoversRow.holds Try.pinned (OpenSpec.ofChange periodCoversWrong)

/-- 'stipendlaw04.PeriodNames': WHATEVER THE INPUT: true; the input reads as it did. -/
def periodNamesSpec : ChangeSpec := { name := "periodNames", fn := fun _ => fun
  | [d1, d2] => { results := [.lit (.bool true)], args := [d1, d2] }
  | _ => none }
def periodNamesRow : OpenClaim := { program := "ytfjcjbmamdfhoaa", sum := "1aeba927de83ea651a0e05926272ac647f1e7095ba16c7fc5e4a3c825c0b79ac", func := "stipend/stipendlaw04.PeriodNames", spec := "periodNames", apart := false }
def PeriodNamesSaid : Prop := periodNamesRow.holds Try.pinned (OpenSpec.ofChange periodNamesSpec)

/-- ITS FALSE NEIGHBOUR: 'it returns false'. Refute it at one input. -/
def periodNamesWrong : ChangeSpec := { name := "periodNames", fn := fun _ => fun
  | [d1, d2] => { results := [.lit (.bool false)], args := [d1, d2] }
  | _ => none }
def PeriodNamesWrongFalsely : Prop := periodNamesRow.holds Try.pinned (OpenSpec.ofChange periodNamesWrong)

/-- 'stipendlaw04.PeriodPays': WHATEVER THE INPUT: true; the input reads as it did. -/
def periodPaysSpec : ChangeSpec := { name := "periodPays", fn := fun _ => fun
  | [d1, d2] => { results := [.lit (.bool true)], args := [d1, d2] }
  | _ => none }
def periodPaysRow : OpenClaim := { program := "ytfjcjbmamdfhoaa", sum := "1aeba927de83ea651a0e05926272ac647f1e7095ba16c7fc5e4a3c825c0b79ac", func := "stipend/stipendlaw04.PeriodPays", spec := "periodPays", apart := false }
def PeriodPaysSaid : Prop := periodPaysRow.holds Try.pinned (OpenSpec.ofChange periodPaysSpec)

/-- ITS FALSE NEIGHBOUR: 'it returns false'. Refute it at one input. -/
def periodPaysWrong : ChangeSpec := { name := "periodPays", fn := fun _ => fun
  | [d1, d2] => { results := [.lit (.bool false)], args := [d1, d2] }
  | _ => none }
def PeriodPaysWrongFalsely : Prop := periodPaysRow.holds Try.pinned (OpenSpec.ofChange periodPaysWrong)

/-- 'stipendtop.WholeYears': WHATEVER THE INPUT: true; the input reads as it did. -/
def wholeYearsSpec : ChangeSpec := { name := "wholeYears", fn := fun _ => fun
  | [d1, d2, d3] => { results := [.lit (.bool true)], args := [d1, d2, d3] }
  | _ => none }
def wholeYearsRow : OpenClaim := { program := "ytfjcjbmamdfhoaa", sum := "1aeba927de83ea651a0e05926272ac647f1e7095ba16c7fc5e4a3c825c0b79ac", func := "stipend/stipendtop.WholeYears", spec := "wholeYears", apart := false }
def WholeYearsSaid : Prop := wholeYearsRow.holds Try.pinned (OpenSpec.ofChange wholeYearsSpec)

/-- ITS FALSE NEIGHBOUR: 'it returns false'. Refute it at one input. -/
def wholeYearsWrong : ChangeSpec := { name := "wholeYears", fn := fun _ => fun
  | [d1, d2, d3] => { results := [.lit (.bool false)], args := [d1, d2, d3] }
  | _ => none }
def WholeYearsWrongFalsely : Prop := wholeYearsRow.holds Try.pinned (OpenSpec.ofChange wholeYearsWrong)

/- THE SECOND FORM. 'bulk': how many values and letters a reading holds, each counted each time it is reached (what is shared counts as often as it is met; a slice's spare places count too). A statement '..UptoSaid' is the law's where the arguments, and the package variables that the reading takes, are together of bulk at most 1048576: NARROWER than '..Said'. Prove '..Said' where nothing that the law and all that it calls make is longer than what came in: it says more and counts as full. Else prove '..UptoSaid'. A law counts once. -/
mutual
def uptoBulk {H : Type} : DataW H → Nat
  | .lit (.string bytes) => bytes.length + 1
  | .lit _ => 1
  | .nil => 1
  | .ptr d => uptoBulk d + 1
  | .slice elems spare => uptoBulkAll elems + uptoBulkAll spare + 1
  | .agg parts => uptoBulkAll parts + 1
  | .iface _ d => uptoBulk d + 1
  | .map entries => uptoBulkEntries entries + 1
  | .held _ => 1
def uptoBulkAll {H : Type} : List (DataW H) → Nat
  | [] => 0
  | d :: r => uptoBulk d + uptoBulkAll r
def uptoBulkEntries {H : Type} : List (Lit × DataW H) → Nat
  | [] => 0
  | x :: r => uptoBulkEntry x + uptoBulkEntries r
def uptoBulkEntry {H : Type} : Lit × DataW H → Nat
  | (.string bytes, d) => bytes.length + uptoBulk d + 1
  | (_, d) => uptoBulk d + 1
 end
def uptoSmall : (H : Type) → List (DataW H) → Bool := fun _ ds => decide (uptoBulkAll ds ≤ 1048576)
def OpenSpec.upto (s : _root_.Go.ChangeSpec) : _root_.Go.OpenSpec := { _root_.Go.OpenSpec.ofChange s with cond := some uptoSmall }

/-- 'stipendlaw04.PeriodMakes', WHERE WHAT IT READS IS OF BULK AT MOST 1048576: true; the input reads as it did. -/
def periodMakesUptoRow : OpenClaim := { program := "ytfjcjbmamdfhoaa", sum := "1aeba927de83ea651a0e05926272ac647f1e7095ba16c7fc5e4a3c825c0b79ac", func := "stipend/stipendlaw04.PeriodMakes", spec := "periodMakes", apart := false, narrowed := true }
def PeriodMakesUptoSaid : Prop := periodMakesUptoRow.holds Try.pinned (OpenSpec.upto periodMakesSpec)

/-- 'stipendlaw04.PeriodWeeks', WHERE WHAT IT READS IS OF BULK AT MOST 1048576: true; the input reads as it did. -/
def periodWeeksUptoRow : OpenClaim := { program := "ytfjcjbmamdfhoaa", sum := "1aeba927de83ea651a0e05926272ac647f1e7095ba16c7fc5e4a3c825c0b79ac", func := "stipend/stipendlaw04.PeriodWeeks", spec := "periodWeeks", apart := false, narrowed := true }
def PeriodWeeksUptoSaid : Prop := periodWeeksUptoRow.holds Try.pinned (OpenSpec.upto periodWeeksSpec)

/-- 'stipendlaw04.PeriodOutside', WHERE WHAT IT READS IS OF BULK AT MOST 1048576: true; the input reads as it did. -/
def periodOutsideUptoRow : OpenClaim := { program := "ytfjcjbmamdfhoaa", sum := "1aeba927de83ea651a0e05926272ac647f1e7095ba16c7fc5e4a3c825c0b79ac", func := "stipend/stipendlaw04.PeriodOutside", spec := "periodOutside", apart := false, narrowed := true }
def PeriodOutsideUptoSaid : Prop := periodOutsideUptoRow.holds Try.pinned (OpenSpec.upto periodOutsideSpec)

/-- 'stipendlaw04.PeriodCovers', WHERE WHAT IT READS IS OF BULK AT MOST 1048576: true; the input reads as it did. -/
def periodCoversUptoRow : OpenClaim := { program := "ytfjcjbmamdfhoaa", sum := "1aeba927de83ea651a0e05926272ac647f1e7095ba16c7fc5e4a3c825c0b79ac", func := "stipend/stipendlaw04.PeriodCovers", spec := "periodCovers", apart := false, narrowed := true }
def PeriodCoversUptoSaid : Prop := periodCoversUptoRow.holds Try.pinned (OpenSpec.upto periodCoversSpec)

/-- 'stipendlaw04.PeriodNames', WHERE WHAT IT READS IS OF BULK AT MOST 1048576: true; the input reads as it did. -/
def periodNamesUptoRow : OpenClaim := { program := "ytfjcjbmamdfhoaa", sum := "1aeba927de83ea651a0e05926272ac647f1e7095ba16c7fc5e4a3c825c0b79ac", func := "stipend/stipendlaw04.PeriodNames", spec := "periodNames", apart := false, narrowed := true }
def PeriodNamesUptoSaid : Prop := periodNamesUptoRow.holds Try.pinned (OpenSpec.upto periodNamesSpec)

/-- 'stipendlaw04.PeriodPays', WHERE WHAT IT READS IS OF BULK AT MOST 1048576: true; the input reads as it did. -/
def periodPaysUptoRow : OpenClaim := { program := "ytfjcjbmamdfhoaa", sum := "1aeba927de83ea651a0e05926272ac647f1e7095ba16c7fc5e4a3c825c0b79ac", func := "stipend/stipendlaw04.PeriodPays", spec := "periodPays", apart := false, narrowed := true }
def PeriodPaysUptoSaid : Prop := periodPaysUptoRow.holds Try.pinned (OpenSpec.upto periodPaysSpec)

/-- 'stipendtop.WholeYears', WHERE WHAT IT READS IS OF BULK AT MOST 1048576: true; the input reads as it did. -/
def wholeYearsUptoRow : OpenClaim := { program := "ytfjcjbmamdfhoaa", sum := "1aeba927de83ea651a0e05926272ac647f1e7095ba16c7fc5e4a3c825c0b79ac", func := "stipend/stipendtop.WholeYears", spec := "wholeYears", apart := false, narrowed := true }
def WholeYearsUptoSaid : Prop := wholeYearsUptoRow.holds Try.pinned (OpenSpec.upto wholeYearsSpec)

end Rows
end Go.Proofs.Ytfjcjbmamdfhoaa
