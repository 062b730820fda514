/-
  DERIVED. GIVEN WITH THE SEED: THE CARDS: each row of YtcehjhdgdgkkgaaDoorRows.lean that lists a variable, with what it lists TIED to the program's text (the seventh form; the later family's looks); each row that meets fmt, with fmt's text TOLD by the authors' own Lean function (tested against real Go, not proved from fmt's source: count such statements apart). THE CARD IS WHAT COUNTS. Prove the row's statement (the work); the ties are given (YtcehjhdgdgkkgaaDoorTie.lean); close each card by the builder's one call (the guide's Derived/Test/ToyasCard.lean, 'card_holds'). Laid BY PROGRAM, IN A SANDBOX (cutbox-door.mjs). By AI agents, Wed Nov 11 2026. No macro, syntax, notation, axiom, sorry.
-/
import Derived.Test.YtcehjhdgdgkkgaaDoorRows
import GoSem.ClaimSeven
namespace Go.Proofs.YtcehjhdgdgkkgaaDoor
namespace Rows

/-- THE TIED CARD OF 'stipendlaw22.PostBooks'. -/
def postBooksCard : Claim7 := { stood := { row := postBooksRow, standIns := [], harness := (true, "d5a7bb5ad463d66005c52beda3fbda011f0b09283c9276fa1f2ff1d33fb8fb03"), looks := false }, kinds := [], alts := [], laidByText := true, laidKinds := [.data, .data, .data], laidTests := true, laidLooks := .later }
def PostBooksCardSaid : Prop := Claim7.holds Tryd.pinned (.plain (OpenSpec.ofChange postBooksSpec)) postBooksCard

/-- THE TIED CARD OF 'stipendlaw22.PostReverse'. -/
def postReverseCard : Claim7 := { stood := { row := postReverseRow, standIns := [], harness := (true, "d5a7bb5ad463d66005c52beda3fbda011f0b09283c9276fa1f2ff1d33fb8fb03"), looks := false }, kinds := [], alts := [], laidByText := true, laidKinds := [.data, .data, .data], laidTests := true, laidLooks := .later }
def PostReverseCardSaid : Prop := Claim7.holds Tryd.pinned (.plain (OpenSpec.ofChange postReverseSpec)) postReverseCard

/-- THE TIED CARD OF 'stipendlaw22.PostChecks'. -/
def postChecksCard : Claim7 := { stood := { row := postChecksRow, standIns := [], harness := (true, "d5a7bb5ad463d66005c52beda3fbda011f0b09283c9276fa1f2ff1d33fb8fb03"), looks := false }, kinds := [], alts := [], laidByText := true, laidKinds := [.data, .data, .data], laidTests := true, laidLooks := .later }
def PostChecksCardSaid : Prop := Claim7.holds Tryd.pinned (.plain (OpenSpec.ofChange postChecksSpec)) postChecksCard

/-- THE TIED CARD OF 'stipendlaw22.PostLines'. -/
def postLinesCard : Claim7 := { stood := { row := postLinesRow, standIns := [], harness := (true, "d5a7bb5ad463d66005c52beda3fbda011f0b09283c9276fa1f2ff1d33fb8fb03"), looks := false }, kinds := [], alts := [], laidByText := true, laidKinds := [.data, .data, .data], laidTests := true, laidLooks := .later }
def PostLinesCardSaid : Prop := Claim7.holds Tryd.pinned (.plain (OpenSpec.ofChange postLinesSpec)) postLinesCard

/-- THE TIED CARD OF 'stipendlaw22.PostSlips'. -/
def postSlipsCard : Claim7 := { stood := { row := postSlipsRow, standIns := [], harness := (true, "d5a7bb5ad463d66005c52beda3fbda011f0b09283c9276fa1f2ff1d33fb8fb03"), looks := false }, kinds := [], alts := [], laidByText := true, laidKinds := [.data, .data, .data], laidTests := true, laidLooks := .later }
def PostSlipsCardSaid : Prop := Claim7.holds Tryd.pinned (.plain (OpenSpec.ofChange postSlipsSpec)) postSlipsCard

/-- THE TIED CARD OF 'stipendlaw22.PostJournal'. -/
def postJournalCard : Claim7 := { stood := { row := postJournalRow, standIns := [], harness := (true, "d5a7bb5ad463d66005c52beda3fbda011f0b09283c9276fa1f2ff1d33fb8fb03"), looks := false }, kinds := [], alts := [], laidByText := true, laidKinds := [.data, .data, .data], laidTests := true, laidLooks := .later }
def PostJournalCardSaid : Prop := Claim7.holds Tryd.pinned (.plain (OpenSpec.ofChange postJournalSpec)) postJournalCard

/-- THE SECOND FORM's CARD OF 'stipendlaw22.PostBooks'. -/
def postBooksUptoCard : Claim7 := { stood := { row := postBooksUptoRow, standIns := [], harness := (true, "d5a7bb5ad463d66005c52beda3fbda011f0b09283c9276fa1f2ff1d33fb8fb03"), looks := false }, kinds := [], alts := [], laidByText := true, laidKinds := [.data, .data, .data], laidTests := true, laidLooks := .later }
def PostBooksUptoCardSaid : Prop := Claim7.holds Tryd.pinned (.plain (OpenSpec.upto postBooksSpec)) postBooksUptoCard

/-- THE SECOND FORM's CARD OF 'stipendlaw22.PostReverse'. -/
def postReverseUptoCard : Claim7 := { stood := { row := postReverseUptoRow, standIns := [], harness := (true, "d5a7bb5ad463d66005c52beda3fbda011f0b09283c9276fa1f2ff1d33fb8fb03"), looks := false }, kinds := [], alts := [], laidByText := true, laidKinds := [.data, .data, .data], laidTests := true, laidLooks := .later }
def PostReverseUptoCardSaid : Prop := Claim7.holds Tryd.pinned (.plain (OpenSpec.upto postReverseSpec)) postReverseUptoCard

/-- THE SECOND FORM's CARD OF 'stipendlaw22.PostChecks'. -/
def postChecksUptoCard : Claim7 := { stood := { row := postChecksUptoRow, standIns := [], harness := (true, "d5a7bb5ad463d66005c52beda3fbda011f0b09283c9276fa1f2ff1d33fb8fb03"), looks := false }, kinds := [], alts := [], laidByText := true, laidKinds := [.data, .data, .data], laidTests := true, laidLooks := .later }
def PostChecksUptoCardSaid : Prop := Claim7.holds Tryd.pinned (.plain (OpenSpec.upto postChecksSpec)) postChecksUptoCard

/-- THE SECOND FORM's CARD OF 'stipendlaw22.PostLines'. -/
def postLinesUptoCard : Claim7 := { stood := { row := postLinesUptoRow, standIns := [], harness := (true, "d5a7bb5ad463d66005c52beda3fbda011f0b09283c9276fa1f2ff1d33fb8fb03"), looks := false }, kinds := [], alts := [], laidByText := true, laidKinds := [.data, .data, .data], laidTests := true, laidLooks := .later }
def PostLinesUptoCardSaid : Prop := Claim7.holds Tryd.pinned (.plain (OpenSpec.upto postLinesSpec)) postLinesUptoCard

/-- THE SECOND FORM's CARD OF 'stipendlaw22.PostSlips'. -/
def postSlipsUptoCard : Claim7 := { stood := { row := postSlipsUptoRow, standIns := [], harness := (true, "d5a7bb5ad463d66005c52beda3fbda011f0b09283c9276fa1f2ff1d33fb8fb03"), looks := false }, kinds := [], alts := [], laidByText := true, laidKinds := [.data, .data, .data], laidTests := true, laidLooks := .later }
def PostSlipsUptoCardSaid : Prop := Claim7.holds Tryd.pinned (.plain (OpenSpec.upto postSlipsSpec)) postSlipsUptoCard

/-- THE SECOND FORM's CARD OF 'stipendlaw22.PostJournal'. -/
def postJournalUptoCard : Claim7 := { stood := { row := postJournalUptoRow, standIns := [], harness := (true, "d5a7bb5ad463d66005c52beda3fbda011f0b09283c9276fa1f2ff1d33fb8fb03"), looks := false }, kinds := [], alts := [], laidByText := true, laidKinds := [.data, .data, .data], laidTests := true, laidLooks := .later }
def PostJournalUptoCardSaid : Prop := Claim7.holds Tryd.pinned (.plain (OpenSpec.upto postJournalSpec)) postJournalUptoCard
end Rows
end Go.Proofs.YtcehjhdgdgkkgaaDoor
