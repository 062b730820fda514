/-
  No cell of these rows narrows 'for every input' (looked for: loops, veiled, ifaces, maps, wideKeys, modest, calm, conditions, laid).
  DERIVED. THE GIVEN ROWS OF THIS SEAT. 4 by the template 'for every input the law returns true; each argument reads behind the call as it read before'; 0 by the template 'total and deterministic' (their statements: YtepacdklieigfaaTotals.lean).
  GIVEN WITH THE SEED: the statements are not yours to turn. If you find one false, say at which input.
  Laid BY PROGRAM, IN A SANDBOX (cutbox-rows.mjs): the forced cells as the released guide's own fill.sh prints them over the translation 28359ebded3879cb… (all of the seat's roots in one cut). By AI agents, Wed Nov 11 2026. No macro, syntax, notation, axiom, sorry.
-/
import Derived.Test.YtepacdklieigfaaChecked
import GoSem.Claim
import GoSem.ClaimJoined
import GoSem.ClaimMapViews
import Derived.JoinedTies
import Derived.KernelRfl
namespace Go.Proofs.Ytepacdklieigfaa
/- THE CELL 'sum', in the pinned program and in every row, IS THE sha256 OF THE DUMP (.gsa) THAT YtepacdklieigfaaProg.lean LOADS. Nothing in Lean hashes anything: it is a label: what it is worth is what the hold of that sum in a sandbox is worth. -/
noncomputable def Try.pinned : Pinned := { name := "ytepacdklieigfaa", sum := "28359ebded3879cb0acc3619409b97dd0d9fbe1893edfa32adeeac2138459101", checked := Try.checked }
namespace Rows
def none {H : Type} : Left H := { results := [], args := [] }

/-- 'stipendlaw10.KeepChecks': WHATEVER THE INPUT: true; the input reads as it did. -/
def keepChecksSpec : ChangeSpec := { name := "keepChecks", fn := fun _ => fun
  | [d] => { results := [.lit (.bool true)], args := [d] }
  | _ => none }
def keepChecksRow : OpenClaim := { program := "ytepacdklieigfaa", sum := "28359ebded3879cb0acc3619409b97dd0d9fbe1893edfa32adeeac2138459101", func := "stipend/stipendlaw10.KeepChecks", spec := "keepChecks", unfollowed := true, recurses := true, apart := false }
def KeepChecksSaid : Prop := keepChecksRow.holds Try.pinned (OpenSpec.ofChange keepChecksSpec)

/-- ITS FALSE NEIGHBOUR: 'it returns false'. Refute it at one input. -/
def keepChecksWrong : ChangeSpec := { name := "keepChecks", fn := fun _ => fun
  | [d] => { results := [.lit (.bool false)], args := [d] }
  | _ => none }
def KeepChecksWrongFalsely : Prop := keepChecksRow.holds Try.pinned (OpenSpec.ofChange keepChecksWrong)

/-- 'stipendlaw10.KeepChoices': WHATEVER THE INPUT: true; the input reads as it did. -/
def keepChoicesSpec : ChangeSpec := { name := "keepChoices", fn := fun _ => fun
  | [d1, d2] => { results := [.lit (.bool true)], args := [d1, d2] }
  | _ => none }
def keepChoicesRow : OpenClaim := { program := "ytepacdklieigfaa", sum := "28359ebded3879cb0acc3619409b97dd0d9fbe1893edfa32adeeac2138459101", func := "stipend/stipendlaw10.KeepChoices", spec := "keepChoices", unfollowed := true, recurses := true, apart := false }
def KeepChoicesSaid : Prop := keepChoicesRow.holds Try.pinned (OpenSpec.ofChange keepChoicesSpec)

/-- ITS FALSE NEIGHBOUR: 'it returns false'. Refute it at one input. -/
def keepChoicesWrong : ChangeSpec := { name := "keepChoices", fn := fun _ => fun
  | [d1, d2] => { results := [.lit (.bool false)], args := [d1, d2] }
  | _ => none }
def KeepChoicesWrongFalsely : Prop := keepChoicesRow.holds Try.pinned (OpenSpec.ofChange keepChoicesWrong)

/-- 'stipendlaw10.KeepBounds': WHATEVER THE INPUT: true; the input reads as it did. -/
def keepBoundsSpec : ChangeSpec := { name := "keepBounds", fn := fun _ => fun
  | [d] => { results := [.lit (.bool true)], args := [d] }
  | _ => none }
def keepBoundsRow : OpenClaim := { program := "ytepacdklieigfaa", sum := "28359ebded3879cb0acc3619409b97dd0d9fbe1893edfa32adeeac2138459101", func := "stipend/stipendlaw10.KeepBounds", spec := "keepBounds", unfollowed := true, recurses := true, apart := false }
def KeepBoundsSaid : Prop := keepBoundsRow.holds Try.pinned (OpenSpec.ofChange keepBoundsSpec)

/-- ITS FALSE NEIGHBOUR: 'it returns false'. Refute it at one input. -/
def keepBoundsWrong : ChangeSpec := { name := "keepBounds", fn := fun _ => fun
  | [d] => { results := [.lit (.bool false)], args := [d] }
  | _ => none }
def KeepBoundsWrongFalsely : Prop := keepBoundsRow.holds Try.pinned (OpenSpec.ofChange keepBoundsWrong)

/-- 'stipendlaw10.KeepOrder': WHATEVER THE INPUT: true; the input reads as it did. -/
def keepOrderSpec : ChangeSpec := { name := "keepOrder", fn := fun _ => fun
  | [d] => { results := [.lit (.bool true)], args := [d] }
  | _ => none }
def keepOrderRow : OpenClaim := { program := "ytepacdklieigfaa", sum := "28359ebded3879cb0acc3619409b97dd0d9fbe1893edfa32adeeac2138459101", func := "stipend/stipendlaw10.KeepOrder", spec := "keepOrder", unfollowed := true, recurses := true, apart := false }
def KeepOrderSaid : Prop := keepOrderRow.holds Try.pinned (OpenSpec.ofChange keepOrderSpec)

/-- ITS FALSE NEIGHBOUR: 'it returns false'. Refute it at one input. -/
def keepOrderWrong : ChangeSpec := { name := "keepOrder", fn := fun _ => fun
  | [d] => { results := [.lit (.bool false)], args := [d] }
  | _ => none }
def KeepOrderWrongFalsely : Prop := keepOrderRow.holds Try.pinned (OpenSpec.ofChange keepOrderWrong)

/- THE SECOND FORM. 'bulk': how many values and letters a reading holds, each counted each time it is reached (what is shared counts as often as it is met; a slice's spare places count too). A statement '..UptoSaid' is the law's where the arguments, and the package variables that the reading takes, are together of bulk at most 1048576: NARROWER than '..Said'. Prove '..Said' where nothing that the law and all that it calls make is longer than what came in: it says more and counts as full. Else prove '..UptoSaid'. A law counts once. -/
mutual
def uptoBulk {H : Type} : DataW H → Nat
  | .lit (.string bytes) => bytes.length + 1
  | .lit _ => 1
  | .nil => 1
  | .ptr d => uptoBulk d + 1
  | .slice elems spare => uptoBulkAll elems + uptoBulkAll spare + 1
  | .agg parts => uptoBulkAll parts + 1
  | .iface _ d => uptoBulk d + 1
  | .map entries => uptoBulkEntries entries + 1
  | .held _ => 1
def uptoBulkAll {H : Type} : List (DataW H) → Nat
  | [] => 0
  | d :: r => uptoBulk d + uptoBulkAll r
def uptoBulkEntries {H : Type} : List (Lit × DataW H) → Nat
  | [] => 0
  | x :: r => uptoBulkEntry x + uptoBulkEntries r
def uptoBulkEntry {H : Type} : Lit × DataW H → Nat
  | (.string bytes, d) => bytes.length + uptoBulk d + 1
  | (_, d) => uptoBulk d + 1
 end
def uptoSmall : (H : Type) → List (DataW H) → Bool := fun _ ds => decide (uptoBulkAll ds ≤ 1048576)
def OpenSpec.upto (s : _root_.Go.ChangeSpec) : _root_.Go.OpenSpec := { _root_.Go.OpenSpec.ofChange s with cond := some uptoSmall }

/-- 'stipendlaw10.KeepChecks', WHERE WHAT IT READS IS OF BULK AT MOST 1048576: true; the input reads as it did. -/
def keepChecksUptoRow : OpenClaim := { program := "ytepacdklieigfaa", sum := "28359ebded3879cb0acc3619409b97dd0d9fbe1893edfa32adeeac2138459101", func := "stipend/stipendlaw10.KeepChecks", spec := "keepChecks", unfollowed := true, recurses := true, apart := false, narrowed := true }
def KeepChecksUptoSaid : Prop := keepChecksUptoRow.holds Try.pinned (OpenSpec.upto keepChecksSpec)

/-- 'stipendlaw10.KeepChoices', WHERE WHAT IT READS IS OF BULK AT MOST 1048576: true; the input reads as it did. -/
def keepChoicesUptoRow : OpenClaim := { program := "ytepacdklieigfaa", sum := "28359ebded3879cb0acc3619409b97dd0d9fbe1893edfa32adeeac2138459101", func := "stipend/stipendlaw10.KeepChoices", spec := "keepChoices", unfollowed := true, recurses := true, apart := false, narrowed := true }
def KeepChoicesUptoSaid : Prop := keepChoicesUptoRow.holds Try.pinned (OpenSpec.upto keepChoicesSpec)

/-- 'stipendlaw10.KeepBounds', WHERE WHAT IT READS IS OF BULK AT MOST 1048576: true; the input reads as it did. -/
def keepBoundsUptoRow : OpenClaim := { program := "ytepacdklieigfaa", sum := "28359ebded3879cb0acc3619409b97dd0d9fbe1893edfa32adeeac2138459101", func := "stipend/stipendlaw10.KeepBounds", spec := "keepBounds", unfollowed := true, recurses := true, apart := false, narrowed := true }
def KeepBoundsUptoSaid : Prop := keepBoundsUptoRow.holds Try.pinned (OpenSpec.upto keepBoundsSpec)

/-- 'stipendlaw10.KeepOrder', WHERE WHAT IT READS IS OF BULK AT MOST 1048576: true; the input reads as it did. -/
def keepOrderUptoRow : OpenClaim := { program := "ytepacdklieigfaa", sum := "28359ebded3879cb0acc3619409b97dd0d9fbe1893edfa32adeeac2138459101", func := "stipend/stipendlaw10.KeepOrder", spec := "keepOrder", unfollowed := true, recurses := true, apart := false, narrowed := true }
def KeepOrderUptoSaid : Prop := keepOrderUptoRow.holds Try.pinned (OpenSpec.upto keepOrderSpec)

end Rows
end Go.Proofs.Ytepacdklieigfaa
