/-
  DERIVED. GIVEN WITH THE SEED: THE CARDS: each row of YtnfngikfpajhgaaDoorRows.lean that lists a variable, with what it lists TIED to the program's text (the seventh form; the later family's looks); each row that meets fmt, with fmt's text TOLD by the authors' own Lean function (tested against real Go, not proved from fmt's source: count such statements apart). THE CARD IS WHAT COUNTS. Prove the row's statement (the work); the ties are given (YtnfngikfpajhgaaDoorTie.lean); close each card by the builder's one call (the guide's Derived/Test/ToyasCard.lean, 'card_holds'). Laid BY PROGRAM, IN A SANDBOX (cutbox-door.mjs). By AI agents, Wed Nov 11 2026. No macro, syntax, notation, axiom, sorry.
-/
import Derived.Test.YtnfngikfpajhgaaDoorRows
import GoSem.ClaimSeven
namespace Go.Proofs.YtnfngikfpajhgaaDoor
namespace Rows

/-- THE TIED CARD OF 'stipendlaw08.CodeChecks'. -/
def codeChecksCard : Claim7 := { stood := { row := codeChecksRow, standIns := [], harness := (true, "7157016554c027cf92fddc4f45a9d557c1f810b226a0b66c1878cb44cf44f595"), looks := false }, kinds := [], alts := [], laidByText := true, laidKinds := [.data, .data, .data], laidTests := true, laidLooks := .later }
def CodeChecksCardSaid : Prop := Claim7.holds Tryd.pinned (.plain (OpenSpec.ofChange codeChecksSpec)) codeChecksCard

/-- THE TIED CARD OF 'stipendlaw08.CodeParses'. -/
def codeParsesCard : Claim7 := { stood := { row := codeParsesRow, standIns := [], harness := (true, "7157016554c027cf92fddc4f45a9d557c1f810b226a0b66c1878cb44cf44f595"), looks := false }, kinds := [], alts := [], laidByText := true, laidKinds := [.data, .data, .data], laidTests := true, laidLooks := .later }
def CodeParsesCardSaid : Prop := Claim7.holds Tryd.pinned (.plain (OpenSpec.ofChange codeParsesSpec)) codeParsesCard

/-- THE TIED CARD OF 'stipendlaw08.CodeForms'. -/
def codeFormsCard : Claim7 := { stood := { row := codeFormsRow, standIns := [], harness := (true, "7157016554c027cf92fddc4f45a9d557c1f810b226a0b66c1878cb44cf44f595"), looks := false }, kinds := [], alts := [], laidByText := true, laidKinds := [.data, .data, .data], laidTests := true, laidLooks := .later }
def CodeFormsCardSaid : Prop := Claim7.holds Tryd.pinned (.plain (OpenSpec.ofChange codeFormsSpec)) codeFormsCard

/-- THE TIED CARD OF 'stipendlaw08.CodeFrees'. -/
def codeFreesCard : Claim7 := { stood := { row := codeFreesRow, standIns := [], harness := (true, "7157016554c027cf92fddc4f45a9d557c1f810b226a0b66c1878cb44cf44f595"), looks := false }, kinds := [], alts := [], laidByText := true, laidKinds := [.data, .data, .data], laidTests := true, laidLooks := .later }
def CodeFreesCardSaid : Prop := Claim7.holds Tryd.pinned (.plain (OpenSpec.ofChange codeFreesSpec)) codeFreesCard

/-- THE TIED CARD OF 'stipendlaw08.CodeRises'. -/
def codeRisesCard : Claim7 := { stood := { row := codeRisesRow, standIns := [], harness := (true, "7157016554c027cf92fddc4f45a9d557c1f810b226a0b66c1878cb44cf44f595"), looks := false }, kinds := [], alts := [], laidByText := true, laidKinds := [.data, .data, .data], laidTests := true, laidLooks := .later }
def CodeRisesCardSaid : Prop := Claim7.holds Tryd.pinned (.plain (OpenSpec.ofChange codeRisesSpec)) codeRisesCard

/-- THE TIED CARD OF 'stipendtop.WholeCodes'. -/
def wholeCodesCard : Claim7 := { stood := { row := wholeCodesRow, standIns := [], harness := (true, "7157016554c027cf92fddc4f45a9d557c1f810b226a0b66c1878cb44cf44f595"), looks := false }, kinds := [], alts := [], laidByText := true, laidKinds := [.data, .data, .data], laidTests := true, laidLooks := .later }
def WholeCodesCardSaid : Prop := Claim7.holds Tryd.pinned (.plain (OpenSpec.ofChange wholeCodesSpec)) wholeCodesCard

/-- THE SECOND FORM's CARD OF 'stipendlaw08.CodeChecks'. -/
def codeChecksUptoCard : Claim7 := { stood := { row := codeChecksUptoRow, standIns := [], harness := (true, "7157016554c027cf92fddc4f45a9d557c1f810b226a0b66c1878cb44cf44f595"), looks := false }, kinds := [], alts := [], laidByText := true, laidKinds := [.data, .data, .data], laidTests := true, laidLooks := .later }
def CodeChecksUptoCardSaid : Prop := Claim7.holds Tryd.pinned (.plain (OpenSpec.upto codeChecksSpec)) codeChecksUptoCard

/-- THE SECOND FORM's CARD OF 'stipendlaw08.CodeParses'. -/
def codeParsesUptoCard : Claim7 := { stood := { row := codeParsesUptoRow, standIns := [], harness := (true, "7157016554c027cf92fddc4f45a9d557c1f810b226a0b66c1878cb44cf44f595"), looks := false }, kinds := [], alts := [], laidByText := true, laidKinds := [.data, .data, .data], laidTests := true, laidLooks := .later }
def CodeParsesUptoCardSaid : Prop := Claim7.holds Tryd.pinned (.plain (OpenSpec.upto codeParsesSpec)) codeParsesUptoCard

/-- THE SECOND FORM's CARD OF 'stipendlaw08.CodeForms'. -/
def codeFormsUptoCard : Claim7 := { stood := { row := codeFormsUptoRow, standIns := [], harness := (true, "7157016554c027cf92fddc4f45a9d557c1f810b226a0b66c1878cb44cf44f595"), looks := false }, kinds := [], alts := [], laidByText := true, laidKinds := [.data, .data, .data], laidTests := true, laidLooks := .later }
def CodeFormsUptoCardSaid : Prop := Claim7.holds Tryd.pinned (.plain (OpenSpec.upto codeFormsSpec)) codeFormsUptoCard

/-- THE SECOND FORM's CARD OF 'stipendlaw08.CodeFrees'. -/
def codeFreesUptoCard : Claim7 := { stood := { row := codeFreesUptoRow, standIns := [], harness := (true, "7157016554c027cf92fddc4f45a9d557c1f810b226a0b66c1878cb44cf44f595"), looks := false }, kinds := [], alts := [], laidByText := true, laidKinds := [.data, .data, .data], laidTests := true, laidLooks := .later }
def CodeFreesUptoCardSaid : Prop := Claim7.holds Tryd.pinned (.plain (OpenSpec.upto codeFreesSpec)) codeFreesUptoCard

/-- THE SECOND FORM's CARD OF 'stipendlaw08.CodeRises'. -/
def codeRisesUptoCard : Claim7 := { stood := { row := codeRisesUptoRow, standIns := [], harness := (true, "7157016554c027cf92fddc4f45a9d557c1f810b226a0b66c1878cb44cf44f595"), looks := false }, kinds := [], alts := [], laidByText := true, laidKinds := [.data, .data, .data], laidTests := true, laidLooks := .later }
def CodeRisesUptoCardSaid : Prop := Claim7.holds Tryd.pinned (.plain (OpenSpec.upto codeRisesSpec)) codeRisesUptoCard

/-- THE SECOND FORM's CARD OF 'stipendtop.WholeCodes'. -/
def wholeCodesUptoCard : Claim7 := { stood := { row := wholeCodesUptoRow, standIns := [], harness := (true, "7157016554c027cf92fddc4f45a9d557c1f810b226a0b66c1878cb44cf44f595"), looks := false }, kinds := [], alts := [], laidByText := true, laidKinds := [.data, .data, .data], laidTests := true, laidLooks := .later }
def WholeCodesUptoCardSaid : Prop := Claim7.holds Tryd.pinned (.plain (OpenSpec.upto wholeCodesSpec)) wholeCodesUptoCard
end Rows
end Go.Proofs.YtnfngikfpajhgaaDoor
