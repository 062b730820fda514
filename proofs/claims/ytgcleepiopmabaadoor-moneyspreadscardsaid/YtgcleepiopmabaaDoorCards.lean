/-
  DERIVED. GIVEN WITH THE SEED: THE CARDS: each row of YtgcleepiopmabaaDoorRows.lean that lists a variable, with what it lists TIED to the program's text (the seventh form; the later family's looks); each row that meets fmt, with fmt's text TOLD by the authors' own Lean function (tested against real Go, not proved from fmt's source: count such statements apart). THE CARD IS WHAT COUNTS. Prove the row's statement (the work); the ties are given (YtgcleepiopmabaaDoorTie.lean); close each card by the builder's one call (the guide's Derived/Test/ToyasCard.lean, 'card_holds'). Laid BY PROGRAM, IN A SANDBOX (cutbox-door.mjs). By AI agents, Wed Nov 11 2026. No macro, syntax, notation, axiom, sorry.
-/
import Derived.Test.YtgcleepiopmabaaDoorRows
import GoSem.ClaimSeven
namespace Go.Proofs.YtgcleepiopmabaaDoor
namespace Rows

/-- THE TIED CARD OF 'stipendlaw01.MoneyTexts'. -/
def moneyTextsCard : Claim7 := { stood := { row := moneyTextsRow, standIns := [], harness := (true, "3d294e8505d1a5fb2508b22fcc73048367abc7e9aaaa479a3a2e7ca84157d182"), looks := false }, kinds := [], alts := [], laidByText := true, laidKinds := [.data, .data, .data], laidTests := true, laidLooks := .later }
def MoneyTextsCardSaid : Prop := Claim7.holds Tryd.pinned (.plain (OpenSpec.ofChange moneyTextsSpec)) moneyTextsCard

/-- THE TIED CARD OF 'stipendlaw01.MoneyParses'. -/
def moneyParsesCard : Claim7 := { stood := { row := moneyParsesRow, standIns := [], harness := (true, "3d294e8505d1a5fb2508b22fcc73048367abc7e9aaaa479a3a2e7ca84157d182"), looks := false }, kinds := [], alts := [], laidByText := true, laidKinds := [.data, .data, .data], laidTests := true, laidLooks := .later }
def MoneyParsesCardSaid : Prop := Claim7.holds Tryd.pinned (.plain (OpenSpec.ofChange moneyParsesSpec)) moneyParsesCard

/-- THE TIED CARD OF 'stipendlaw01.MoneyAbs'. -/
def moneyAbsCard : Claim7 := { stood := { row := moneyAbsRow, standIns := [], harness := (true, "3d294e8505d1a5fb2508b22fcc73048367abc7e9aaaa479a3a2e7ca84157d182"), looks := false }, kinds := [], alts := [], laidByText := true, laidKinds := [.data, .data, .data], laidTests := true, laidLooks := .later }
def MoneyAbsCardSaid : Prop := Claim7.holds Tryd.pinned (.plain (OpenSpec.ofChange moneyAbsSpec)) moneyAbsCard

/-- THE TIED CARD OF 'stipendlaw01.MoneySpreads'. -/
def moneySpreadsCard : Claim7 := { stood := { row := moneySpreadsRow, standIns := [], harness := (true, "3d294e8505d1a5fb2508b22fcc73048367abc7e9aaaa479a3a2e7ca84157d182"), looks := false }, kinds := [], alts := [], laidByText := true, laidKinds := [.data, .data, .data], laidTests := true, laidLooks := .later }
def MoneySpreadsCardSaid : Prop := Claim7.holds Tryd.pinned (.plain (OpenSpec.ofChange moneySpreadsSpec)) moneySpreadsCard

/-- THE TIED CARD OF 'stipendlaw01.MoneyAdds'. -/
def moneyAddsCard : Claim7 := { stood := { row := moneyAddsRow, standIns := [], harness := (true, "3d294e8505d1a5fb2508b22fcc73048367abc7e9aaaa479a3a2e7ca84157d182"), looks := false }, kinds := [], alts := [], laidByText := true, laidKinds := [.data, .data, .data], laidTests := true, laidLooks := .later }
def MoneyAddsCardSaid : Prop := Claim7.holds Tryd.pinned (.plain (OpenSpec.ofChange moneyAddsSpec)) moneyAddsCard

/-- THE TIED CARD OF 'stipendlaw01.MoneySums'. -/
def moneySumsCard : Claim7 := { stood := { row := moneySumsRow, standIns := [], harness := (true, "3d294e8505d1a5fb2508b22fcc73048367abc7e9aaaa479a3a2e7ca84157d182"), looks := false }, kinds := [], alts := [], laidByText := true, laidKinds := [.data, .data, .data], laidTests := true, laidLooks := .later }
def MoneySumsCardSaid : Prop := Claim7.holds Tryd.pinned (.plain (OpenSpec.ofChange moneySumsSpec)) moneySumsCard

/-- THE TIED CARD OF 'stipendlaw01.MoneyTimes'. -/
def moneyTimesCard : Claim7 := { stood := { row := moneyTimesRow, standIns := [], harness := (true, "3d294e8505d1a5fb2508b22fcc73048367abc7e9aaaa479a3a2e7ca84157d182"), looks := false }, kinds := [], alts := [], laidByText := true, laidKinds := [.data, .data, .data], laidTests := true, laidLooks := .later }
def MoneyTimesCardSaid : Prop := Claim7.holds Tryd.pinned (.plain (OpenSpec.ofChange moneyTimesSpec)) moneyTimesCard

/-- THE TIED CARD OF 'stipendlaw01.MoneyUnits'. -/
def moneyUnitsCard : Claim7 := { stood := { row := moneyUnitsRow, standIns := [], harness := (true, "3d294e8505d1a5fb2508b22fcc73048367abc7e9aaaa479a3a2e7ca84157d182"), looks := false }, kinds := [], alts := [], laidByText := true, laidKinds := [.data, .data, .data], laidTests := true, laidLooks := .later }
def MoneyUnitsCardSaid : Prop := Claim7.holds Tryd.pinned (.plain (OpenSpec.ofChange moneyUnitsSpec)) moneyUnitsCard

/-- THE TIED CARD OF 'stipendtop.WholeParts'. -/
def wholePartsCard : Claim7 := { stood := { row := wholePartsRow, standIns := [], harness := (true, "3d294e8505d1a5fb2508b22fcc73048367abc7e9aaaa479a3a2e7ca84157d182"), looks := false }, kinds := [], alts := [], laidByText := true, laidKinds := [.data, .data, .data], laidTests := true, laidLooks := .later }
def WholePartsCardSaid : Prop := Claim7.holds Tryd.pinned (.plain (OpenSpec.ofChange wholePartsSpec)) wholePartsCard

/-- THE SECOND FORM's CARD OF 'stipendlaw01.MoneyTexts'. -/
def moneyTextsUptoCard : Claim7 := { stood := { row := moneyTextsUptoRow, standIns := [], harness := (true, "3d294e8505d1a5fb2508b22fcc73048367abc7e9aaaa479a3a2e7ca84157d182"), looks := false }, kinds := [], alts := [], laidByText := true, laidKinds := [.data, .data, .data], laidTests := true, laidLooks := .later }
def MoneyTextsUptoCardSaid : Prop := Claim7.holds Tryd.pinned (.plain (OpenSpec.upto moneyTextsSpec)) moneyTextsUptoCard

/-- THE SECOND FORM's CARD OF 'stipendlaw01.MoneyParses'. -/
def moneyParsesUptoCard : Claim7 := { stood := { row := moneyParsesUptoRow, standIns := [], harness := (true, "3d294e8505d1a5fb2508b22fcc73048367abc7e9aaaa479a3a2e7ca84157d182"), looks := false }, kinds := [], alts := [], laidByText := true, laidKinds := [.data, .data, .data], laidTests := true, laidLooks := .later }
def MoneyParsesUptoCardSaid : Prop := Claim7.holds Tryd.pinned (.plain (OpenSpec.upto moneyParsesSpec)) moneyParsesUptoCard

/-- THE SECOND FORM's CARD OF 'stipendlaw01.MoneyAbs'. -/
def moneyAbsUptoCard : Claim7 := { stood := { row := moneyAbsUptoRow, standIns := [], harness := (true, "3d294e8505d1a5fb2508b22fcc73048367abc7e9aaaa479a3a2e7ca84157d182"), looks := false }, kinds := [], alts := [], laidByText := true, laidKinds := [.data, .data, .data], laidTests := true, laidLooks := .later }
def MoneyAbsUptoCardSaid : Prop := Claim7.holds Tryd.pinned (.plain (OpenSpec.upto moneyAbsSpec)) moneyAbsUptoCard

/-- THE SECOND FORM's CARD OF 'stipendlaw01.MoneySpreads'. -/
def moneySpreadsUptoCard : Claim7 := { stood := { row := moneySpreadsUptoRow, standIns := [], harness := (true, "3d294e8505d1a5fb2508b22fcc73048367abc7e9aaaa479a3a2e7ca84157d182"), looks := false }, kinds := [], alts := [], laidByText := true, laidKinds := [.data, .data, .data], laidTests := true, laidLooks := .later }
def MoneySpreadsUptoCardSaid : Prop := Claim7.holds Tryd.pinned (.plain (OpenSpec.upto moneySpreadsSpec)) moneySpreadsUptoCard

/-- THE SECOND FORM's CARD OF 'stipendlaw01.MoneyAdds'. -/
def moneyAddsUptoCard : Claim7 := { stood := { row := moneyAddsUptoRow, standIns := [], harness := (true, "3d294e8505d1a5fb2508b22fcc73048367abc7e9aaaa479a3a2e7ca84157d182"), looks := false }, kinds := [], alts := [], laidByText := true, laidKinds := [.data, .data, .data], laidTests := true, laidLooks := .later }
def MoneyAddsUptoCardSaid : Prop := Claim7.holds Tryd.pinned (.plain (OpenSpec.upto moneyAddsSpec)) moneyAddsUptoCard

/-- THE SECOND FORM's CARD OF 'stipendlaw01.MoneySums'. -/
def moneySumsUptoCard : Claim7 := { stood := { row := moneySumsUptoRow, standIns := [], harness := (true, "3d294e8505d1a5fb2508b22fcc73048367abc7e9aaaa479a3a2e7ca84157d182"), looks := false }, kinds := [], alts := [], laidByText := true, laidKinds := [.data, .data, .data], laidTests := true, laidLooks := .later }
def MoneySumsUptoCardSaid : Prop := Claim7.holds Tryd.pinned (.plain (OpenSpec.upto moneySumsSpec)) moneySumsUptoCard

/-- THE SECOND FORM's CARD OF 'stipendlaw01.MoneyTimes'. -/
def moneyTimesUptoCard : Claim7 := { stood := { row := moneyTimesUptoRow, standIns := [], harness := (true, "3d294e8505d1a5fb2508b22fcc73048367abc7e9aaaa479a3a2e7ca84157d182"), looks := false }, kinds := [], alts := [], laidByText := true, laidKinds := [.data, .data, .data], laidTests := true, laidLooks := .later }
def MoneyTimesUptoCardSaid : Prop := Claim7.holds Tryd.pinned (.plain (OpenSpec.upto moneyTimesSpec)) moneyTimesUptoCard

/-- THE SECOND FORM's CARD OF 'stipendlaw01.MoneyUnits'. -/
def moneyUnitsUptoCard : Claim7 := { stood := { row := moneyUnitsUptoRow, standIns := [], harness := (true, "3d294e8505d1a5fb2508b22fcc73048367abc7e9aaaa479a3a2e7ca84157d182"), looks := false }, kinds := [], alts := [], laidByText := true, laidKinds := [.data, .data, .data], laidTests := true, laidLooks := .later }
def MoneyUnitsUptoCardSaid : Prop := Claim7.holds Tryd.pinned (.plain (OpenSpec.upto moneyUnitsSpec)) moneyUnitsUptoCard

/-- THE SECOND FORM's CARD OF 'stipendtop.WholeParts'. -/
def wholePartsUptoCard : Claim7 := { stood := { row := wholePartsUptoRow, standIns := [], harness := (true, "3d294e8505d1a5fb2508b22fcc73048367abc7e9aaaa479a3a2e7ca84157d182"), looks := false }, kinds := [], alts := [], laidByText := true, laidKinds := [.data, .data, .data], laidTests := true, laidLooks := .later }
def WholePartsUptoCardSaid : Prop := Claim7.holds Tryd.pinned (.plain (OpenSpec.upto wholePartsSpec)) wholePartsUptoCard
end Rows
end Go.Proofs.YtgcleepiopmabaaDoor
