/-
  DERIVED. GIVEN WITH THE SEED: THE CARDS: each row of YthhoimfigekagaaDoorRows.lean that lists a variable, with what it lists TIED to the program's text (the seventh form; the later family's looks); each row that meets fmt, with fmt's text TOLD by the authors' own Lean function (tested against real Go, not proved from fmt's source: count such statements apart). THE CARD IS WHAT COUNTS. Prove the row's statement (the work); the ties are given (YthhoimfigekagaaDoorTie.lean); close each card by the builder's one call (the guide's Derived/Test/ToyasCard.lean, 'card_holds'). Laid BY PROGRAM, IN A SANDBOX (cutbox-door.mjs). By AI agents, Wed Nov 11 2026. No macro, syntax, notation, axiom, sorry.
-/
import Derived.Test.YthhoimfigekagaaDoorRows
import GoSem.ClaimSeven
namespace Go.Proofs.YthhoimfigekagaaDoor
namespace Rows

/-- THE TIED CARD OF 'stipendlaw16.ShareDelta'. -/
def shareDeltaCard : Claim7 := { stood := { row := shareDeltaRow, standIns := [], harness := (true, "294df81526275856a9dc3acbeede4c596dd44ea68760ddaf5c79499f23109d3e"), looks := false }, kinds := [], alts := [], laidByText := true, laidKinds := [.data, .data, .data], laidTests := true, laidLooks := .later }
def ShareDeltaCardSaid : Prop := Claim7.holds Tryd.pinned (.plain (OpenSpec.ofChange shareDeltaSpec)) shareDeltaCard

/-- THE TIED CARD OF 'stipendlaw16.ShareReach'. -/
def shareReachCard : Claim7 := { stood := { row := shareReachRow, standIns := [], harness := (true, "294df81526275856a9dc3acbeede4c596dd44ea68760ddaf5c79499f23109d3e"), looks := false }, kinds := [], alts := [], laidByText := true, laidKinds := [.data, .data, .data], laidTests := true, laidLooks := .later }
def ShareReachCardSaid : Prop := Claim7.holds Tryd.pinned (.plain (OpenSpec.ofChange shareReachSpec)) shareReachCard

/-- THE TIED CARD OF 'stipendlaw16.ShareSides'. -/
def shareSidesCard : Claim7 := { stood := { row := shareSidesRow, standIns := [], harness := (true, "294df81526275856a9dc3acbeede4c596dd44ea68760ddaf5c79499f23109d3e"), looks := false }, kinds := [], alts := [], laidByText := true, laidKinds := [.data, .data, .data], laidTests := true, laidLooks := .later }
def ShareSidesCardSaid : Prop := Claim7.holds Tryd.pinned (.plain (OpenSpec.ofChange shareSidesSpec)) shareSidesCard

/-- THE TIED CARD OF 'stipendlaw16.ShareLines'. -/
def shareLinesCard : Claim7 := { stood := { row := shareLinesRow, standIns := [], harness := (true, "294df81526275856a9dc3acbeede4c596dd44ea68760ddaf5c79499f23109d3e"), looks := false }, kinds := [], alts := [], laidByText := true, laidKinds := [.data, .data, .data], laidTests := true, laidLooks := .later }
def ShareLinesCardSaid : Prop := Claim7.holds Tryd.pinned (.plain (OpenSpec.ofChange shareLinesSpec)) shareLinesCard

/-- THE SECOND FORM's CARD OF 'stipendlaw16.ShareDelta'. -/
def shareDeltaUptoCard : Claim7 := { stood := { row := shareDeltaUptoRow, standIns := [], harness := (true, "294df81526275856a9dc3acbeede4c596dd44ea68760ddaf5c79499f23109d3e"), looks := false }, kinds := [], alts := [], laidByText := true, laidKinds := [.data, .data, .data], laidTests := true, laidLooks := .later }
def ShareDeltaUptoCardSaid : Prop := Claim7.holds Tryd.pinned (.plain (OpenSpec.upto shareDeltaSpec)) shareDeltaUptoCard

/-- THE SECOND FORM's CARD OF 'stipendlaw16.ShareReach'. -/
def shareReachUptoCard : Claim7 := { stood := { row := shareReachUptoRow, standIns := [], harness := (true, "294df81526275856a9dc3acbeede4c596dd44ea68760ddaf5c79499f23109d3e"), looks := false }, kinds := [], alts := [], laidByText := true, laidKinds := [.data, .data, .data], laidTests := true, laidLooks := .later }
def ShareReachUptoCardSaid : Prop := Claim7.holds Tryd.pinned (.plain (OpenSpec.upto shareReachSpec)) shareReachUptoCard

/-- THE SECOND FORM's CARD OF 'stipendlaw16.ShareSides'. -/
def shareSidesUptoCard : Claim7 := { stood := { row := shareSidesUptoRow, standIns := [], harness := (true, "294df81526275856a9dc3acbeede4c596dd44ea68760ddaf5c79499f23109d3e"), looks := false }, kinds := [], alts := [], laidByText := true, laidKinds := [.data, .data, .data], laidTests := true, laidLooks := .later }
def ShareSidesUptoCardSaid : Prop := Claim7.holds Tryd.pinned (.plain (OpenSpec.upto shareSidesSpec)) shareSidesUptoCard

/-- THE SECOND FORM's CARD OF 'stipendlaw16.ShareLines'. -/
def shareLinesUptoCard : Claim7 := { stood := { row := shareLinesUptoRow, standIns := [], harness := (true, "294df81526275856a9dc3acbeede4c596dd44ea68760ddaf5c79499f23109d3e"), looks := false }, kinds := [], alts := [], laidByText := true, laidKinds := [.data, .data, .data], laidTests := true, laidLooks := .later }
def ShareLinesUptoCardSaid : Prop := Claim7.holds Tryd.pinned (.plain (OpenSpec.upto shareLinesSpec)) shareLinesUptoCard
end Rows
end Go.Proofs.YthhoimfigekagaaDoor
