/-
  DERIVED. GIVEN WITH THE SEED: THE CARDS: each row of YtepacdklieigfaaDoorRows.lean that lists a variable, with what it lists TIED to the program's text (the seventh form; the later family's looks); each row that meets fmt, with fmt's text TOLD by the authors' own Lean function (tested against real Go, not proved from fmt's source: count such statements apart). THE CARD IS WHAT COUNTS. Prove the row's statement (the work); the ties are given (YtepacdklieigfaaDoorTie.lean); close each card by the builder's one call (the guide's Derived/Test/ToyasCard.lean, 'card_holds'). Laid BY PROGRAM, IN A SANDBOX (cutbox-door.mjs). By AI agents, Wed Nov 11 2026. No macro, syntax, notation, axiom, sorry.
-/
import Derived.Test.YtepacdklieigfaaDoorRows
import GoSem.ClaimSeven
namespace Go.Proofs.YtepacdklieigfaaDoor
namespace Rows

/-- THE TIED CARD OF 'stipendlaw10.KeepCuts'. -/
def keepCutsCard : Claim7 := { stood := { row := keepCutsRow, standIns := [], harness := (true, "c401d45fafb8e0d04425215c96b21ee47f09c1f927a7445051ac66ef3d311621"), looks := false }, kinds := [], alts := [], laidByText := true, laidKinds := [.data, .data, .data], laidTests := true, laidLooks := .later }
def KeepCutsCardSaid : Prop := Claim7.holds Tryd.pinned (.plain (OpenSpec.ofChange keepCutsSpec)) keepCutsCard

/-- THE SECOND FORM's CARD OF 'stipendlaw10.KeepCuts'. -/
def keepCutsUptoCard : Claim7 := { stood := { row := keepCutsUptoRow, standIns := [], harness := (true, "c401d45fafb8e0d04425215c96b21ee47f09c1f927a7445051ac66ef3d311621"), looks := false }, kinds := [], alts := [], laidByText := true, laidKinds := [.data, .data, .data], laidTests := true, laidLooks := .later }
def KeepCutsUptoCardSaid : Prop := Claim7.holds Tryd.pinned (.plain (OpenSpec.upto keepCutsSpec)) keepCutsUptoCard
end Rows
end Go.Proofs.YtepacdklieigfaaDoor
