/-
  No cell of these rows narrows 'for every input' (looked for: loops, veiled, ifaces, maps, wideKeys, modest, calm, conditions, laid).
  DERIVED. THE GIVEN ROWS OF THIS SEAT. 7 by the template 'for every input the law returns true; each argument reads behind the call as it read before'; 0 by the template 'total and deterministic' (their statements: YtmoaahhlilaopaaTotals.lean).
  GIVEN WITH THE SEED: the statements are not yours to turn. If you find one false, say at which input.
  Laid BY PROGRAM, IN A SANDBOX (cutbox-rows.mjs): the forced cells as the released guide's own fill.sh prints them over the translation 65acc14067c30b10… (all of the seat's roots in one cut). By AI agents, Wed Nov 11 2026. No macro, syntax, notation, axiom, sorry.
-/
import Derived.Test.YtmoaahhlilaopaaChecked
import GoSem.Claim
import GoSem.ClaimJoined
import GoSem.ClaimMapViews
import Derived.JoinedTies
import Derived.KernelRfl
namespace Go.Proofs.Ytmoaahhlilaopaa
/- THE CELL 'sum', in the pinned program and in every row, IS THE sha256 OF THE DUMP (.gsa) THAT YtmoaahhlilaopaaProg.lean LOADS. Nothing in Lean hashes anything: it is a label: what it is worth is what the hold of that sum in a sandbox is worth. -/
noncomputable def Try.pinned : Pinned := { name := "ytmoaahhlilaopaa", sum := "65acc14067c30b10095f4bd20f9d2cfbf57d30dc6c1d6ef33771e46e65a76374", checked := Try.checked }
namespace Rows
def none {H : Type} : Left H := { results := [], args := [] }

/-- 'stipendlaw03.DateCounts': WHATEVER THE INPUT: true; the input reads as it did. -/
def dateCountsSpec : ChangeSpec := { name := "dateCounts", fn := fun _ => fun
  | [d] => { results := [.lit (.bool true)], args := [d] }
  | _ => none }
def dateCountsRow : OpenClaim := { program := "ytmoaahhlilaopaa", sum := "65acc14067c30b10095f4bd20f9d2cfbf57d30dc6c1d6ef33771e46e65a76374", func := "stipend/stipendlaw03.DateCounts", spec := "dateCounts", apart := false }
def DateCountsSaid : Prop := dateCountsRow.holds Try.pinned (OpenSpec.ofChange dateCountsSpec)

/-- ITS FALSE NEIGHBOUR: 'it returns false'. Refute it at one input. -/
def dateCountsWrong : ChangeSpec := { name := "dateCounts", fn := fun _ => fun
  | [d] => { results := [.lit (.bool false)], args := [d] }
  | _ => none }
def DateCountsWrongFalsely : Prop := dateCountsRow.holds Try.pinned (OpenSpec.ofChange dateCountsWrong)

/-- 'stipendlaw03.DateBack': WHATEVER THE INPUT: true; the input reads as it did. -/
def dateBackSpec : ChangeSpec := { name := "dateBack", fn := fun _ => fun
  | [d] => { results := [.lit (.bool true)], args := [d] }
  | _ => none }
def dateBackRow : OpenClaim := { program := "ytmoaahhlilaopaa", sum := "65acc14067c30b10095f4bd20f9d2cfbf57d30dc6c1d6ef33771e46e65a76374", func := "stipend/stipendlaw03.DateBack", spec := "dateBack", apart := false }
def DateBackSaid : Prop := dateBackRow.holds Try.pinned (OpenSpec.ofChange dateBackSpec)

/-- ITS FALSE NEIGHBOUR: 'it returns false'. Refute it at one input. -/
def dateBackWrong : ChangeSpec := { name := "dateBack", fn := fun _ => fun
  | [d] => { results := [.lit (.bool false)], args := [d] }
  | _ => none }
def DateBackWrongFalsely : Prop := dateBackRow.holds Try.pinned (OpenSpec.ofChange dateBackWrong)

/-- 'stipendlaw03.DateMonths': WHATEVER THE INPUT: true; the input reads as it did. -/
def dateMonthsSpec : ChangeSpec := { name := "dateMonths", fn := fun _ => fun
  | [d1, d2] => { results := [.lit (.bool true)], args := [d1, d2] }
  | _ => none }
def dateMonthsRow : OpenClaim := { program := "ytmoaahhlilaopaa", sum := "65acc14067c30b10095f4bd20f9d2cfbf57d30dc6c1d6ef33771e46e65a76374", func := "stipend/stipendlaw03.DateMonths", spec := "dateMonths", apart := false }
def DateMonthsSaid : Prop := dateMonthsRow.holds Try.pinned (OpenSpec.ofChange dateMonthsSpec)

/-- ITS FALSE NEIGHBOUR: 'it returns false'. Refute it at one input. -/
def dateMonthsWrong : ChangeSpec := { name := "dateMonths", fn := fun _ => fun
  | [d1, d2] => { results := [.lit (.bool false)], args := [d1, d2] }
  | _ => none }
def DateMonthsWrongFalsely : Prop := dateMonthsRow.holds Try.pinned (OpenSpec.ofChange dateMonthsWrong)

/-- 'stipendlaw03.DateTexts': WHATEVER THE INPUT: true; the input reads as it did. -/
def dateTextsSpec : ChangeSpec := { name := "dateTexts", fn := fun _ => fun
  | [d1, d2] => { results := [.lit (.bool true)], args := [d1, d2] }
  | _ => none }
def dateTextsRow : OpenClaim := { program := "ytmoaahhlilaopaa", sum := "65acc14067c30b10095f4bd20f9d2cfbf57d30dc6c1d6ef33771e46e65a76374", func := "stipend/stipendlaw03.DateTexts", spec := "dateTexts", apart := false }
def DateTextsSaid : Prop := dateTextsRow.holds Try.pinned (OpenSpec.ofChange dateTextsSpec)

/-- ITS FALSE NEIGHBOUR: 'it returns false'. Refute it at one input. -/
def dateTextsWrong : ChangeSpec := { name := "dateTexts", fn := fun _ => fun
  | [d1, d2] => { results := [.lit (.bool false)], args := [d1, d2] }
  | _ => none }
def DateTextsWrongFalsely : Prop := dateTextsRow.holds Try.pinned (OpenSpec.ofChange dateTextsWrong)

/-- 'stipendlaw03.DateAdds': WHATEVER THE INPUT: true; the input reads as it did. -/
def dateAddsSpec : ChangeSpec := { name := "dateAdds", fn := fun _ => fun
  | [d1, d2] => { results := [.lit (.bool true)], args := [d1, d2] }
  | _ => none }
def dateAddsRow : OpenClaim := { program := "ytmoaahhlilaopaa", sum := "65acc14067c30b10095f4bd20f9d2cfbf57d30dc6c1d6ef33771e46e65a76374", func := "stipend/stipendlaw03.DateAdds", spec := "dateAdds", apart := false }
def DateAddsSaid : Prop := dateAddsRow.holds Try.pinned (OpenSpec.ofChange dateAddsSpec)

/-- ITS FALSE NEIGHBOUR: 'it returns false'. Refute it at one input. -/
def dateAddsWrong : ChangeSpec := { name := "dateAdds", fn := fun _ => fun
  | [d1, d2] => { results := [.lit (.bool false)], args := [d1, d2] }
  | _ => none }
def DateAddsWrongFalsely : Prop := dateAddsRow.holds Try.pinned (OpenSpec.ofChange dateAddsWrong)

/-- 'stipendlaw03.DateOrder': WHATEVER THE INPUT: true; the input reads as it did. -/
def dateOrderSpec : ChangeSpec := { name := "dateOrder", fn := fun _ => fun
  | [d1, d2, d3] => { results := [.lit (.bool true)], args := [d1, d2, d3] }
  | _ => none }
def dateOrderRow : OpenClaim := { program := "ytmoaahhlilaopaa", sum := "65acc14067c30b10095f4bd20f9d2cfbf57d30dc6c1d6ef33771e46e65a76374", func := "stipend/stipendlaw03.DateOrder", spec := "dateOrder", apart := false }
def DateOrderSaid : Prop := dateOrderRow.holds Try.pinned (OpenSpec.ofChange dateOrderSpec)

/-- ITS FALSE NEIGHBOUR: 'it returns false'. Refute it at one input. -/
def dateOrderWrong : ChangeSpec := { name := "dateOrder", fn := fun _ => fun
  | [d1, d2, d3] => { results := [.lit (.bool false)], args := [d1, d2, d3] }
  | _ => none }
def DateOrderWrongFalsely : Prop := dateOrderRow.holds Try.pinned (OpenSpec.ofChange dateOrderWrong)

/-- 'stipendlaw03.DateWorks': WHATEVER THE INPUT: true; the input reads as it did. -/
def dateWorksSpec : ChangeSpec := { name := "dateWorks", fn := fun _ => fun
  | [d1, d2] => { results := [.lit (.bool true)], args := [d1, d2] }
  | _ => none }
def dateWorksRow : OpenClaim := { program := "ytmoaahhlilaopaa", sum := "65acc14067c30b10095f4bd20f9d2cfbf57d30dc6c1d6ef33771e46e65a76374", func := "stipend/stipendlaw03.DateWorks", spec := "dateWorks", unfollowed := true, recurses := true, apart := false }
def DateWorksSaid : Prop := dateWorksRow.holds Try.pinned (OpenSpec.ofChange dateWorksSpec)

/-- ITS FALSE NEIGHBOUR: 'it returns false'. Refute it at one input. -/
def dateWorksWrong : ChangeSpec := { name := "dateWorks", fn := fun _ => fun
  | [d1, d2] => { results := [.lit (.bool false)], args := [d1, d2] }
  | _ => none }
def DateWorksWrongFalsely : Prop := dateWorksRow.holds Try.pinned (OpenSpec.ofChange dateWorksWrong)

/- THE SECOND FORM. 'bulk': how many values and letters a reading holds, each counted each time it is reached (what is shared counts as often as it is met; a slice's spare places count too). A statement '..UptoSaid' is the law's where the arguments, and the package variables that the reading takes, are together of bulk at most 1048576: NARROWER than '..Said'. Prove '..Said' where nothing that the law and all that it calls make is longer than what came in: it says more and counts as full. Else prove '..UptoSaid'. A law counts once. -/
mutual
def uptoBulk {H : Type} : DataW H → Nat
  | .lit (.string bytes) => bytes.length + 1
  | .lit _ => 1
  | .nil => 1
  | .ptr d => uptoBulk d + 1
  | .slice elems spare => uptoBulkAll elems + uptoBulkAll spare + 1
  | .agg parts => uptoBulkAll parts + 1
  | .iface _ d => uptoBulk d + 1
  | .map entries => uptoBulkEntries entries + 1
  | .held _ => 1
def uptoBulkAll {H : Type} : List (DataW H) → Nat
  | [] => 0
  | d :: r => uptoBulk d + uptoBulkAll r
def uptoBulkEntries {H : Type} : List (Lit × DataW H) → Nat
  | [] => 0
  | x :: r => uptoBulkEntry x + uptoBulkEntries r
def uptoBulkEntry {H : Type} : Lit × DataW H → Nat
  | (.string bytes, d) => bytes.length + uptoBulk d + 1
  | (_, d) => uptoBulk d + 1
 end
def uptoSmall : (H : Type) → List (DataW H) → Bool := fun _ ds => decide (uptoBulkAll ds ≤ 1048576)
def OpenSpec.upto (s : _root_.Go.ChangeSpec) : _root_.Go.OpenSpec := { _root_.Go.OpenSpec.ofChange s with cond := some uptoSmall }

/-- 'stipendlaw03.DateCounts', WHERE WHAT IT READS IS OF BULK AT MOST 1048576: true; the input reads as it did. -/
def dateCountsUptoRow : OpenClaim := { program := "ytmoaahhlilaopaa", sum := "65acc14067c30b10095f4bd20f9d2cfbf57d30dc6c1d6ef33771e46e65a76374", func := "stipend/stipendlaw03.DateCounts", spec := "dateCounts", apart := false, narrowed := true }
def DateCountsUptoSaid : Prop := dateCountsUptoRow.holds Try.pinned (OpenSpec.upto dateCountsSpec)

/-- 'stipendlaw03.DateBack', WHERE WHAT IT READS IS OF BULK AT MOST 1048576: true; the input reads as it did. -/
def dateBackUptoRow : OpenClaim := { program := "ytmoaahhlilaopaa", sum := "65acc14067c30b10095f4bd20f9d2cfbf57d30dc6c1d6ef33771e46e65a76374", func := "stipend/stipendlaw03.DateBack", spec := "dateBack", apart := false, narrowed := true }
def DateBackUptoSaid : Prop := dateBackUptoRow.holds Try.pinned (OpenSpec.upto dateBackSpec)

/-- 'stipendlaw03.DateMonths', WHERE WHAT IT READS IS OF BULK AT MOST 1048576: true; the input reads as it did. -/
def dateMonthsUptoRow : OpenClaim := { program := "ytmoaahhlilaopaa", sum := "65acc14067c30b10095f4bd20f9d2cfbf57d30dc6c1d6ef33771e46e65a76374", func := "stipend/stipendlaw03.DateMonths", spec := "dateMonths", apart := false, narrowed := true }
def DateMonthsUptoSaid : Prop := dateMonthsUptoRow.holds Try.pinned (OpenSpec.upto dateMonthsSpec)

/-- 'stipendlaw03.DateTexts', WHERE WHAT IT READS IS OF BULK AT MOST 1048576: true; the input reads as it did. -/
def dateTextsUptoRow : OpenClaim := { program := "ytmoaahhlilaopaa", sum := "65acc14067c30b10095f4bd20f9d2cfbf57d30dc6c1d6ef33771e46e65a76374", func := "stipend/stipendlaw03.DateTexts", spec := "dateTexts", apart := false, narrowed := true }
def DateTextsUptoSaid : Prop := dateTextsUptoRow.holds Try.pinned (OpenSpec.upto dateTextsSpec)

/-- 'stipendlaw03.DateAdds', WHERE WHAT IT READS IS OF BULK AT MOST 1048576: true; the input reads as it did. -/
def dateAddsUptoRow : OpenClaim := { program := "ytmoaahhlilaopaa", sum := "65acc14067c30b10095f4bd20f9d2cfbf57d30dc6c1d6ef33771e46e65a76374", func := "stipend/stipendlaw03.DateAdds", spec := "dateAdds", apart := false, narrowed := true }
def DateAddsUptoSaid : Prop := dateAddsUptoRow.holds Try.pinned (OpenSpec.upto dateAddsSpec)

/-- 'stipendlaw03.DateOrder', WHERE WHAT IT READS IS OF BULK AT MOST 1048576: true; the input reads as it did. -/
def dateOrderUptoRow : OpenClaim := { program := "ytmoaahhlilaopaa", sum := "65acc14067c30b10095f4bd20f9d2cfbf57d30dc6c1d6ef33771e46e65a76374", func := "stipend/stipendlaw03.DateOrder", spec := "dateOrder", apart := false, narrowed := true }
def DateOrderUptoSaid : Prop := dateOrderUptoRow.holds Try.pinned (OpenSpec.upto dateOrderSpec)

/-- 'stipendlaw03.DateWorks', WHERE WHAT IT READS IS OF BULK AT MOST 1048576: true; the input reads as it did. -/
def dateWorksUptoRow : OpenClaim := { program := "ytmoaahhlilaopaa", sum := "65acc14067c30b10095f4bd20f9d2cfbf57d30dc6c1d6ef33771e46e65a76374", func := "stipend/stipendlaw03.DateWorks", spec := "dateWorks", unfollowed := true, recurses := true, apart := false, narrowed := true }
def DateWorksUptoSaid : Prop := dateWorksUptoRow.holds Try.pinned (OpenSpec.upto dateWorksSpec)

end Rows
end Go.Proofs.Ytmoaahhlilaopaa
