/-
  NARROWER THAN 'FOR EVERY INPUT', by the rows' own cells (each row's printed sentence says how): MoneyTexts: laid · MoneyParses: laid · MoneyAbs: laid · MoneySpreads: laid · MoneyAdds: laid · MoneySums: laid · MoneyTimes: laid · MoneyUnits: laid · WholeParts: laid.
  DERIVED. THE GIVEN ROWS OF THIS SEAT. 9 by the template 'for every input the law returns true; each argument reads behind the call as it read before'; 0 by the template 'total and deterministic' (their statements: YtgcleepiopmabaaDoorTotals.lean).
  GIVEN WITH THE SEED: the statements are not yours to turn. If you find one false, say at which input.
  Laid BY PROGRAM, IN A SANDBOX (cutbox-rows.mjs): the forced cells as the released guide's own fill.sh prints them over the translation 334e26f6b4a4d1d5… (all of the seat's roots in one cut). By AI agents, Wed Nov 11 2026. No macro, syntax, notation, axiom, sorry.
-/
import Derived.Test.YtgcleepiopmabaaDoorChecked
import GoSem.Claim
import GoSem.ClaimJoined
import GoSem.ClaimMapViews
import Derived.JoinedTies
import Derived.KernelRfl
namespace Go.Proofs.YtgcleepiopmabaaDoor
/- THE CELL 'sum', in the pinned program and in every row, IS THE sha256 OF THE DUMP (.gsa) THAT YtgcleepiopmabaaDoorProg.lean LOADS. Nothing in Lean hashes anything: it is a label: what it is worth is what the hold of that sum in a sandbox is worth. -/
noncomputable def Tryd.pinned : Pinned := { name := "ytgcleepiopmabaadoor", sum := "334e26f6b4a4d1d59559a90e8d0dc99eee04c0437b8baf87edd68efde9fecca5", checked := Tryd.checked }
namespace Rows
def none {H : Type} : Left H := { results := [], args := [] }

/- WHAT THE LISTED PACKAGE-LEVEL VARIABLES READ AS WHEN THE CALL BEGINS. Each datum BY PROGRAM (the guide's laid-datum.mjs) off the statement by which the dump's own 'gosem.cut.vars' lays the variable. In a bare row this is a premise. The card (YtgcleepiopmabaaDoorCards.lean) ties it to the program's text. -/
def laid_math_bits_deBruijn32tab {H : Type} : DataW H := .agg [.lit (.int .u8 0), .lit (.int .u8 1), .lit (.int .u8 28), .lit (.int .u8 2), .lit (.int .u8 29), .lit (.int .u8 14), .lit (.int .u8 24), .lit (.int .u8 3), .lit (.int .u8 30), .lit (.int .u8 22), .lit (.int .u8 20), .lit (.int .u8 15), .lit (.int .u8 25), .lit (.int .u8 17), .lit (.int .u8 4), .lit (.int .u8 8), .lit (.int .u8 31), .lit (.int .u8 27), .lit (.int .u8 13), .lit (.int .u8 23), .lit (.int .u8 21), .lit (.int .u8 19), .lit (.int .u8 16), .lit (.int .u8 7), .lit (.int .u8 26), .lit (.int .u8 12), .lit (.int .u8 18), .lit (.int .u8 6), .lit (.int .u8 11), .lit (.int .u8 5), .lit (.int .u8 10), .lit (.int .u8 9)]
def laid_math_bits_deBruijn64tab {H : Type} : DataW H := .agg [.lit (.int .u8 0), .lit (.int .u8 1), .lit (.int .u8 56), .lit (.int .u8 2), .lit (.int .u8 57), .lit (.int .u8 49), .lit (.int .u8 28), .lit (.int .u8 3), .lit (.int .u8 61), .lit (.int .u8 58), .lit (.int .u8 42), .lit (.int .u8 50), .lit (.int .u8 38), .lit (.int .u8 29), .lit (.int .u8 17), .lit (.int .u8 4), .lit (.int .u8 62), .lit (.int .u8 47), .lit (.int .u8 59), .lit (.int .u8 36), .lit (.int .u8 45), .lit (.int .u8 43), .lit (.int .u8 51), .lit (.int .u8 22), .lit (.int .u8 53), .lit (.int .u8 39), .lit (.int .u8 33), .lit (.int .u8 30), .lit (.int .u8 24), .lit (.int .u8 18), .lit (.int .u8 12), .lit (.int .u8 5), .lit (.int .u8 63), .lit (.int .u8 55), .lit (.int .u8 48), .lit (.int .u8 27), .lit (.int .u8 60), .lit (.int .u8 41), .lit (.int .u8 37), .lit (.int .u8 16), .lit (.int .u8 46), .lit (.int .u8 35), .lit (.int .u8 44), .lit (.int .u8 21), .lit (.int .u8 52), .lit (.int .u8 32), .lit (.int .u8 23), .lit (.int .u8 11), .lit (.int .u8 54), .lit (.int .u8 26), .lit (.int .u8 40), .lit (.int .u8 15), .lit (.int .u8 34), .lit (.int .u8 20), .lit (.int .u8 31), .lit (.int .u8 10), .lit (.int .u8 25), .lit (.int .u8 14), .lit (.int .u8 19), .lit (.int .u8 9), .lit (.int .u8 13), .lit (.int .u8 8), .lit (.int .u8 7), .lit (.int .u8 6)]
def laid_internal_strconv_uint64pow10 {H : Type} : DataW H := .agg [.lit (.int .u64 1), .lit (.int .u64 10), .lit (.int .u64 100), .lit (.int .u64 1000), .lit (.int .u64 10000), .lit (.int .u64 100000), .lit (.int .u64 1000000), .lit (.int .u64 10000000), .lit (.int .u64 100000000), .lit (.int .u64 1000000000), .lit (.int .u64 10000000000), .lit (.int .u64 100000000000), .lit (.int .u64 1000000000000), .lit (.int .u64 10000000000000), .lit (.int .u64 100000000000000), .lit (.int .u64 1000000000000000), .lit (.int .u64 10000000000000000), .lit (.int .u64 100000000000000000), .lit (.int .u64 1000000000000000000), .lit (.int .u64 10000000000000000000)]

/-- 'stipendlaw01.MoneyTexts': WHATEVER THE INPUT: true; the input reads as it did. -/
def moneyTextsSpec : ChangeSpec := { name := "moneyTexts", fn := fun _ => fun
  | [d] => { results := [.lit (.bool true)], args := [d] }
  | _ => none }
def moneyTextsRow : OpenClaim := { program := "ytgcleepiopmabaadoor", sum := "334e26f6b4a4d1d59559a90e8d0dc99eee04c0437b8baf87edd68efde9fecca5", func := "stipend/stipendlaw01.MoneyTexts", spec := "moneyTexts", unfollowed := true, recurses := true, named := ["math/bits.divideError", "math/bits.overflowError", "internal/strconv.uint64pow10", "math/bits.deBruijn32tab", "math/bits.deBruijn64tab"], apart := false, laid := [("math/bits.deBruijn32tab", laid_math_bits_deBruijn32tab), ("math/bits.deBruijn64tab", laid_math_bits_deBruijn64tab), ("internal/strconv.uint64pow10", laid_internal_strconv_uint64pow10)] }
def MoneyTextsSaid : Prop := moneyTextsRow.holds Tryd.pinned (OpenSpec.ofChange moneyTextsSpec)

/-- ITS FALSE NEIGHBOUR: 'it returns false'. Refute it at one input. -/
def moneyTextsWrong : ChangeSpec := { name := "moneyTexts", fn := fun _ => fun
  | [d] => { results := [.lit (.bool false)], args := [d] }
  | _ => none }
def MoneyTextsWrongFalsely : Prop := moneyTextsRow.holds Tryd.pinned (OpenSpec.ofChange moneyTextsWrong)

/-- 'stipendlaw01.MoneyParses': WHATEVER THE INPUT: true; the input reads as it did. -/
def moneyParsesSpec : ChangeSpec := { name := "moneyParses", fn := fun _ => fun
  | [d] => { results := [.lit (.bool true)], args := [d] }
  | _ => none }
def moneyParsesRow : OpenClaim := { program := "ytgcleepiopmabaadoor", sum := "334e26f6b4a4d1d59559a90e8d0dc99eee04c0437b8baf87edd68efde9fecca5", func := "stipend/stipendlaw01.MoneyParses", spec := "moneyParses", unfollowed := true, recurses := true, named := ["math/bits.divideError", "math/bits.overflowError", "internal/strconv.uint64pow10", "math/bits.deBruijn32tab", "math/bits.deBruijn64tab"], apart := false, laid := [("math/bits.deBruijn32tab", laid_math_bits_deBruijn32tab), ("math/bits.deBruijn64tab", laid_math_bits_deBruijn64tab), ("internal/strconv.uint64pow10", laid_internal_strconv_uint64pow10)] }
def MoneyParsesSaid : Prop := moneyParsesRow.holds Tryd.pinned (OpenSpec.ofChange moneyParsesSpec)

/-- ITS FALSE NEIGHBOUR: 'it returns false'. Refute it at one input. -/
def moneyParsesWrong : ChangeSpec := { name := "moneyParses", fn := fun _ => fun
  | [d] => { results := [.lit (.bool false)], args := [d] }
  | _ => none }
def MoneyParsesWrongFalsely : Prop := moneyParsesRow.holds Tryd.pinned (OpenSpec.ofChange moneyParsesWrong)

/-- 'stipendlaw01.MoneyAbs': WHATEVER THE INPUT: true; the input reads as it did. -/
def moneyAbsSpec : ChangeSpec := { name := "moneyAbs", fn := fun _ => fun
  | [d] => { results := [.lit (.bool true)], args := [d] }
  | _ => none }
def moneyAbsRow : OpenClaim := { program := "ytgcleepiopmabaadoor", sum := "334e26f6b4a4d1d59559a90e8d0dc99eee04c0437b8baf87edd68efde9fecca5", func := "stipend/stipendlaw01.MoneyAbs", spec := "moneyAbs", unfollowed := true, recurses := true, named := ["math/bits.divideError", "math/bits.overflowError", "internal/strconv.uint64pow10", "math/bits.deBruijn32tab", "math/bits.deBruijn64tab"], apart := false, laid := [("math/bits.deBruijn32tab", laid_math_bits_deBruijn32tab), ("math/bits.deBruijn64tab", laid_math_bits_deBruijn64tab), ("internal/strconv.uint64pow10", laid_internal_strconv_uint64pow10)] }
def MoneyAbsSaid : Prop := moneyAbsRow.holds Tryd.pinned (OpenSpec.ofChange moneyAbsSpec)

/-- ITS FALSE NEIGHBOUR: 'it returns false'. Refute it at one input. -/
def moneyAbsWrong : ChangeSpec := { name := "moneyAbs", fn := fun _ => fun
  | [d] => { results := [.lit (.bool false)], args := [d] }
  | _ => none }
def MoneyAbsWrongFalsely : Prop := moneyAbsRow.holds Tryd.pinned (OpenSpec.ofChange moneyAbsWrong)

/-- 'stipendlaw01.MoneySpreads': WHATEVER THE INPUT: true; the input reads as it did. -/
def moneySpreadsSpec : ChangeSpec := { name := "moneySpreads", fn := fun _ => fun
  | [d1, d2] => { results := [.lit (.bool true)], args := [d1, d2] }
  | _ => none }
def moneySpreadsRow : OpenClaim := { program := "ytgcleepiopmabaadoor", sum := "334e26f6b4a4d1d59559a90e8d0dc99eee04c0437b8baf87edd68efde9fecca5", func := "stipend/stipendlaw01.MoneySpreads", spec := "moneySpreads", inPlace := ["math.Float64bits", "math.Float64frombits"], unfollowed := true, recurses := true, named := ["math/bits.divideError", "math/bits.overflowError", "internal/strconv.uint64pow10", "math/bits.deBruijn32tab", "math/bits.deBruijn64tab"], apart := false, laid := [("math/bits.deBruijn32tab", laid_math_bits_deBruijn32tab), ("math/bits.deBruijn64tab", laid_math_bits_deBruijn64tab), ("internal/strconv.uint64pow10", laid_internal_strconv_uint64pow10)] }
def MoneySpreadsSaid : Prop := moneySpreadsRow.holds Tryd.pinned (OpenSpec.ofChange moneySpreadsSpec)

/-- ITS FALSE NEIGHBOUR: 'it returns false'. Refute it at one input. -/
def moneySpreadsWrong : ChangeSpec := { name := "moneySpreads", fn := fun _ => fun
  | [d1, d2] => { results := [.lit (.bool false)], args := [d1, d2] }
  | _ => none }
def MoneySpreadsWrongFalsely : Prop := moneySpreadsRow.holds Tryd.pinned (OpenSpec.ofChange moneySpreadsWrong)

/-- 'stipendlaw01.MoneyAdds': WHATEVER THE INPUT: true; the input reads as it did. -/
def moneyAddsSpec : ChangeSpec := { name := "moneyAdds", fn := fun _ => fun
  | [d1, d2] => { results := [.lit (.bool true)], args := [d1, d2] }
  | _ => none }
def moneyAddsRow : OpenClaim := { program := "ytgcleepiopmabaadoor", sum := "334e26f6b4a4d1d59559a90e8d0dc99eee04c0437b8baf87edd68efde9fecca5", func := "stipend/stipendlaw01.MoneyAdds", spec := "moneyAdds", unfollowed := true, recurses := true, named := ["math/bits.divideError", "math/bits.overflowError", "internal/strconv.uint64pow10", "math/bits.deBruijn32tab", "math/bits.deBruijn64tab"], apart := false, laid := [("math/bits.deBruijn32tab", laid_math_bits_deBruijn32tab), ("math/bits.deBruijn64tab", laid_math_bits_deBruijn64tab), ("internal/strconv.uint64pow10", laid_internal_strconv_uint64pow10)] }
def MoneyAddsSaid : Prop := moneyAddsRow.holds Tryd.pinned (OpenSpec.ofChange moneyAddsSpec)

/-- ITS FALSE NEIGHBOUR: 'it returns false'. Refute it at one input. -/
def moneyAddsWrong : ChangeSpec := { name := "moneyAdds", fn := fun _ => fun
  | [d1, d2] => { results := [.lit (.bool false)], args := [d1, d2] }
  | _ => none }
def MoneyAddsWrongFalsely : Prop := moneyAddsRow.holds Tryd.pinned (OpenSpec.ofChange moneyAddsWrong)

/-- 'stipendlaw01.MoneySums': WHATEVER THE INPUT: true; the input reads as it did. -/
def moneySumsSpec : ChangeSpec := { name := "moneySums", fn := fun _ => fun
  | [d] => { results := [.lit (.bool true)], args := [d] }
  | _ => none }
def moneySumsRow : OpenClaim := { program := "ytgcleepiopmabaadoor", sum := "334e26f6b4a4d1d59559a90e8d0dc99eee04c0437b8baf87edd68efde9fecca5", func := "stipend/stipendlaw01.MoneySums", spec := "moneySums", unfollowed := true, recurses := true, named := ["math/bits.divideError", "math/bits.overflowError", "internal/strconv.uint64pow10", "math/bits.deBruijn32tab", "math/bits.deBruijn64tab"], apart := false, laid := [("math/bits.deBruijn32tab", laid_math_bits_deBruijn32tab), ("math/bits.deBruijn64tab", laid_math_bits_deBruijn64tab), ("internal/strconv.uint64pow10", laid_internal_strconv_uint64pow10)] }
def MoneySumsSaid : Prop := moneySumsRow.holds Tryd.pinned (OpenSpec.ofChange moneySumsSpec)

/-- ITS FALSE NEIGHBOUR: 'it returns false'. Refute it at one input. -/
def moneySumsWrong : ChangeSpec := { name := "moneySums", fn := fun _ => fun
  | [d] => { results := [.lit (.bool false)], args := [d] }
  | _ => none }
def MoneySumsWrongFalsely : Prop := moneySumsRow.holds Tryd.pinned (OpenSpec.ofChange moneySumsWrong)

/-- 'stipendlaw01.MoneyTimes': WHATEVER THE INPUT: true; the input reads as it did. -/
def moneyTimesSpec : ChangeSpec := { name := "moneyTimes", fn := fun _ => fun
  | [d1, d2] => { results := [.lit (.bool true)], args := [d1, d2] }
  | _ => none }
def moneyTimesRow : OpenClaim := { program := "ytgcleepiopmabaadoor", sum := "334e26f6b4a4d1d59559a90e8d0dc99eee04c0437b8baf87edd68efde9fecca5", func := "stipend/stipendlaw01.MoneyTimes", spec := "moneyTimes", unfollowed := true, recurses := true, named := ["math/bits.divideError", "math/bits.overflowError", "internal/strconv.uint64pow10", "math/bits.deBruijn32tab", "math/bits.deBruijn64tab"], apart := false, laid := [("math/bits.deBruijn32tab", laid_math_bits_deBruijn32tab), ("math/bits.deBruijn64tab", laid_math_bits_deBruijn64tab), ("internal/strconv.uint64pow10", laid_internal_strconv_uint64pow10)] }
def MoneyTimesSaid : Prop := moneyTimesRow.holds Tryd.pinned (OpenSpec.ofChange moneyTimesSpec)

/-- ITS FALSE NEIGHBOUR: 'it returns false'. Refute it at one input. -/
def moneyTimesWrong : ChangeSpec := { name := "moneyTimes", fn := fun _ => fun
  | [d1, d2] => { results := [.lit (.bool false)], args := [d1, d2] }
  | _ => none }
def MoneyTimesWrongFalsely : Prop := moneyTimesRow.holds Tryd.pinned (OpenSpec.ofChange moneyTimesWrong)

/-- 'stipendlaw01.MoneyUnits': WHATEVER THE INPUT: true; the input reads as it did. -/
def moneyUnitsSpec : ChangeSpec := { name := "moneyUnits", fn := fun _ => fun
  | [d1, d2, d3] => { results := [.lit (.bool true)], args := [d1, d2, d3] }
  | _ => none }
def moneyUnitsRow : OpenClaim := { program := "ytgcleepiopmabaadoor", sum := "334e26f6b4a4d1d59559a90e8d0dc99eee04c0437b8baf87edd68efde9fecca5", func := "stipend/stipendlaw01.MoneyUnits", spec := "moneyUnits", unfollowed := true, recurses := true, named := ["math/bits.divideError", "math/bits.overflowError", "internal/strconv.uint64pow10", "math/bits.deBruijn32tab", "math/bits.deBruijn64tab"], apart := false, laid := [("math/bits.deBruijn32tab", laid_math_bits_deBruijn32tab), ("math/bits.deBruijn64tab", laid_math_bits_deBruijn64tab), ("internal/strconv.uint64pow10", laid_internal_strconv_uint64pow10)] }
def MoneyUnitsSaid : Prop := moneyUnitsRow.holds Tryd.pinned (OpenSpec.ofChange moneyUnitsSpec)

/-- ITS FALSE NEIGHBOUR: 'it returns false'. Refute it at one input. -/
def moneyUnitsWrong : ChangeSpec := { name := "moneyUnits", fn := fun _ => fun
  | [d1, d2, d3] => { results := [.lit (.bool false)], args := [d1, d2, d3] }
  | _ => none }
def MoneyUnitsWrongFalsely : Prop := moneyUnitsRow.holds Tryd.pinned (OpenSpec.ofChange moneyUnitsWrong)

/-- 'stipendtop.WholeParts': WHATEVER THE INPUT: true; the input reads as it did. -/
def wholePartsSpec : ChangeSpec := { name := "wholeParts", fn := fun _ => fun
  | [d1, d2, d3] => { results := [.lit (.bool true)], args := [d1, d2, d3] }
  | _ => none }
def wholePartsRow : OpenClaim := { program := "ytgcleepiopmabaadoor", sum := "334e26f6b4a4d1d59559a90e8d0dc99eee04c0437b8baf87edd68efde9fecca5", func := "stipend/stipendtop.WholeParts", spec := "wholeParts", unfollowed := true, recurses := true, named := ["internal/strconv.uint64pow10", "math/bits.deBruijn32tab", "math/bits.deBruijn64tab", "math/bits.divideError", "math/bits.overflowError"], apart := false, laid := [("math/bits.deBruijn32tab", laid_math_bits_deBruijn32tab), ("math/bits.deBruijn64tab", laid_math_bits_deBruijn64tab), ("internal/strconv.uint64pow10", laid_internal_strconv_uint64pow10)] }
def WholePartsSaid : Prop := wholePartsRow.holds Tryd.pinned (OpenSpec.ofChange wholePartsSpec)

/-- ITS FALSE NEIGHBOUR: 'it returns false'. Refute it at one input. -/
def wholePartsWrong : ChangeSpec := { name := "wholeParts", fn := fun _ => fun
  | [d1, d2, d3] => { results := [.lit (.bool false)], args := [d1, d2, d3] }
  | _ => none }
def WholePartsWrongFalsely : Prop := wholePartsRow.holds Tryd.pinned (OpenSpec.ofChange wholePartsWrong)

/- THE SECOND FORM. 'bulk': how many values and letters a reading holds, each counted each time it is reached (what is shared counts as often as it is met; a slice's spare places count too). A statement '..UptoSaid' is the law's where the arguments, and the package variables that the reading takes, are together of bulk at most 1048576: NARROWER than '..Said'. Prove '..Said' where nothing that the law and all that it calls make is longer than what came in: it says more and counts as full. Else prove '..UptoSaid'. A law counts once. -/
mutual
def uptoBulk {H : Type} : DataW H → Nat
  | .lit (.string bytes) => bytes.length + 1
  | .lit _ => 1
  | .nil => 1
  | .ptr d => uptoBulk d + 1
  | .slice elems spare => uptoBulkAll elems + uptoBulkAll spare + 1
  | .agg parts => uptoBulkAll parts + 1
  | .iface _ d => uptoBulk d + 1
  | .map entries => uptoBulkEntries entries + 1
  | .held _ => 1
def uptoBulkAll {H : Type} : List (DataW H) → Nat
  | [] => 0
  | d :: r => uptoBulk d + uptoBulkAll r
def uptoBulkEntries {H : Type} : List (Lit × DataW H) → Nat
  | [] => 0
  | x :: r => uptoBulkEntry x + uptoBulkEntries r
def uptoBulkEntry {H : Type} : Lit × DataW H → Nat
  | (.string bytes, d) => bytes.length + uptoBulk d + 1
  | (_, d) => uptoBulk d + 1
 end
def uptoSmall : (H : Type) → List (DataW H) → Bool := fun _ ds => decide (uptoBulkAll ds ≤ 1048576)
def OpenSpec.upto (s : _root_.Go.ChangeSpec) : _root_.Go.OpenSpec := { _root_.Go.OpenSpec.ofChange s with cond := some uptoSmall }

/-- 'stipendlaw01.MoneyTexts', WHERE WHAT IT READS IS OF BULK AT MOST 1048576: true; the input reads as it did. -/
def moneyTextsUptoRow : OpenClaim := { program := "ytgcleepiopmabaadoor", sum := "334e26f6b4a4d1d59559a90e8d0dc99eee04c0437b8baf87edd68efde9fecca5", func := "stipend/stipendlaw01.MoneyTexts", spec := "moneyTexts", unfollowed := true, recurses := true, named := ["math/bits.divideError", "math/bits.overflowError", "internal/strconv.uint64pow10", "math/bits.deBruijn32tab", "math/bits.deBruijn64tab"], apart := false, laid := [("math/bits.deBruijn32tab", laid_math_bits_deBruijn32tab), ("math/bits.deBruijn64tab", laid_math_bits_deBruijn64tab), ("internal/strconv.uint64pow10", laid_internal_strconv_uint64pow10)], narrowed := true }
def MoneyTextsUptoSaid : Prop := moneyTextsUptoRow.holds Tryd.pinned (OpenSpec.upto moneyTextsSpec)

/-- 'stipendlaw01.MoneyParses', WHERE WHAT IT READS IS OF BULK AT MOST 1048576: true; the input reads as it did. -/
def moneyParsesUptoRow : OpenClaim := { program := "ytgcleepiopmabaadoor", sum := "334e26f6b4a4d1d59559a90e8d0dc99eee04c0437b8baf87edd68efde9fecca5", func := "stipend/stipendlaw01.MoneyParses", spec := "moneyParses", unfollowed := true, recurses := true, named := ["math/bits.divideError", "math/bits.overflowError", "internal/strconv.uint64pow10", "math/bits.deBruijn32tab", "math/bits.deBruijn64tab"], apart := false, laid := [("math/bits.deBruijn32tab", laid_math_bits_deBruijn32tab), ("math/bits.deBruijn64tab", laid_math_bits_deBruijn64tab), ("internal/strconv.uint64pow10", laid_internal_strconv_uint64pow10)], narrowed := true }
def MoneyParsesUptoSaid : Prop := moneyParsesUptoRow.holds Tryd.pinned (OpenSpec.upto moneyParsesSpec)

/-- 'stipendlaw01.MoneyAbs', WHERE WHAT IT READS IS OF BULK AT MOST 1048576: true; the input reads as it did. -/
def moneyAbsUptoRow : OpenClaim := { program := "ytgcleepiopmabaadoor", sum := "334e26f6b4a4d1d59559a90e8d0dc99eee04c0437b8baf87edd68efde9fecca5", func := "stipend/stipendlaw01.MoneyAbs", spec := "moneyAbs", unfollowed := true, recurses := true, named := ["math/bits.divideError", "math/bits.overflowError", "internal/strconv.uint64pow10", "math/bits.deBruijn32tab", "math/bits.deBruijn64tab"], apart := false, laid := [("math/bits.deBruijn32tab", laid_math_bits_deBruijn32tab), ("math/bits.deBruijn64tab", laid_math_bits_deBruijn64tab), ("internal/strconv.uint64pow10", laid_internal_strconv_uint64pow10)], narrowed := true }
def MoneyAbsUptoSaid : Prop := moneyAbsUptoRow.holds Tryd.pinned (OpenSpec.upto moneyAbsSpec)

/-- 'stipendlaw01.MoneySpreads', WHERE WHAT IT READS IS OF BULK AT MOST 1048576: true; the input reads as it did. -/
def moneySpreadsUptoRow : OpenClaim := { program := "ytgcleepiopmabaadoor", sum := "334e26f6b4a4d1d59559a90e8d0dc99eee04c0437b8baf87edd68efde9fecca5", func := "stipend/stipendlaw01.MoneySpreads", spec := "moneySpreads", inPlace := ["math.Float64bits", "math.Float64frombits"], unfollowed := true, recurses := true, named := ["math/bits.divideError", "math/bits.overflowError", "internal/strconv.uint64pow10", "math/bits.deBruijn32tab", "math/bits.deBruijn64tab"], apart := false, laid := [("math/bits.deBruijn32tab", laid_math_bits_deBruijn32tab), ("math/bits.deBruijn64tab", laid_math_bits_deBruijn64tab), ("internal/strconv.uint64pow10", laid_internal_strconv_uint64pow10)], narrowed := true }
def MoneySpreadsUptoSaid : Prop := moneySpreadsUptoRow.holds Tryd.pinned (OpenSpec.upto moneySpreadsSpec)

/-- 'stipendlaw01.MoneyAdds', WHERE WHAT IT READS IS OF BULK AT MOST 1048576: true; the input reads as it did. -/
def moneyAddsUptoRow : OpenClaim := { program := "ytgcleepiopmabaadoor", sum := "334e26f6b4a4d1d59559a90e8d0dc99eee04c0437b8baf87edd68efde9fecca5", func := "stipend/stipendlaw01.MoneyAdds", spec := "moneyAdds", unfollowed := true, recurses := true, named := ["math/bits.divideError", "math/bits.overflowError", "internal/strconv.uint64pow10", "math/bits.deBruijn32tab", "math/bits.deBruijn64tab"], apart := false, laid := [("math/bits.deBruijn32tab", laid_math_bits_deBruijn32tab), ("math/bits.deBruijn64tab", laid_math_bits_deBruijn64tab), ("internal/strconv.uint64pow10", laid_internal_strconv_uint64pow10)], narrowed := true }
def MoneyAddsUptoSaid : Prop := moneyAddsUptoRow.holds Tryd.pinned (OpenSpec.upto moneyAddsSpec)

/-- 'stipendlaw01.MoneySums', WHERE WHAT IT READS IS OF BULK AT MOST 1048576: true; the input reads as it did. -/
def moneySumsUptoRow : OpenClaim := { program := "ytgcleepiopmabaadoor", sum := "334e26f6b4a4d1d59559a90e8d0dc99eee04c0437b8baf87edd68efde9fecca5", func := "stipend/stipendlaw01.MoneySums", spec := "moneySums", unfollowed := true, recurses := true, named := ["math/bits.divideError", "math/bits.overflowError", "internal/strconv.uint64pow10", "math/bits.deBruijn32tab", "math/bits.deBruijn64tab"], apart := false, laid := [("math/bits.deBruijn32tab", laid_math_bits_deBruijn32tab), ("math/bits.deBruijn64tab", laid_math_bits_deBruijn64tab), ("internal/strconv.uint64pow10", laid_internal_strconv_uint64pow10)], narrowed := true }
def MoneySumsUptoSaid : Prop := moneySumsUptoRow.holds Tryd.pinned (OpenSpec.upto moneySumsSpec)

/-- 'stipendlaw01.MoneyTimes', WHERE WHAT IT READS IS OF BULK AT MOST 1048576: true; the input reads as it did. -/
def moneyTimesUptoRow : OpenClaim := { program := "ytgcleepiopmabaadoor", sum := "334e26f6b4a4d1d59559a90e8d0dc99eee04c0437b8baf87edd68efde9fecca5", func := "stipend/stipendlaw01.MoneyTimes", spec := "moneyTimes", unfollowed := true, recurses := true, named := ["math/bits.divideError", "math/bits.overflowError", "internal/strconv.uint64pow10", "math/bits.deBruijn32tab", "math/bits.deBruijn64tab"], apart := false, laid := [("math/bits.deBruijn32tab", laid_math_bits_deBruijn32tab), ("math/bits.deBruijn64tab", laid_math_bits_deBruijn64tab), ("internal/strconv.uint64pow10", laid_internal_strconv_uint64pow10)], narrowed := true }
def MoneyTimesUptoSaid : Prop := moneyTimesUptoRow.holds Tryd.pinned (OpenSpec.upto moneyTimesSpec)

/-- 'stipendlaw01.MoneyUnits', WHERE WHAT IT READS IS OF BULK AT MOST 1048576: true; the input reads as it did. -/
def moneyUnitsUptoRow : OpenClaim := { program := "ytgcleepiopmabaadoor", sum := "334e26f6b4a4d1d59559a90e8d0dc99eee04c0437b8baf87edd68efde9fecca5", func := "stipend/stipendlaw01.MoneyUnits", spec := "moneyUnits", unfollowed := true, recurses := true, named := ["math/bits.divideError", "math/bits.overflowError", "internal/strconv.uint64pow10", "math/bits.deBruijn32tab", "math/bits.deBruijn64tab"], apart := false, laid := [("math/bits.deBruijn32tab", laid_math_bits_deBruijn32tab), ("math/bits.deBruijn64tab", laid_math_bits_deBruijn64tab), ("internal/strconv.uint64pow10", laid_internal_strconv_uint64pow10)], narrowed := true }
def MoneyUnitsUptoSaid : Prop := moneyUnitsUptoRow.holds Tryd.pinned (OpenSpec.upto moneyUnitsSpec)

/-- 'stipendtop.WholeParts', WHERE WHAT IT READS IS OF BULK AT MOST 1048576: true; the input reads as it did. -/
def wholePartsUptoRow : OpenClaim := { program := "ytgcleepiopmabaadoor", sum := "334e26f6b4a4d1d59559a90e8d0dc99eee04c0437b8baf87edd68efde9fecca5", func := "stipend/stipendtop.WholeParts", spec := "wholeParts", unfollowed := true, recurses := true, named := ["internal/strconv.uint64pow10", "math/bits.deBruijn32tab", "math/bits.deBruijn64tab", "math/bits.divideError", "math/bits.overflowError"], apart := false, laid := [("math/bits.deBruijn32tab", laid_math_bits_deBruijn32tab), ("math/bits.deBruijn64tab", laid_math_bits_deBruijn64tab), ("internal/strconv.uint64pow10", laid_internal_strconv_uint64pow10)], narrowed := true }
def WholePartsUptoSaid : Prop := wholePartsUptoRow.holds Tryd.pinned (OpenSpec.upto wholePartsSpec)

end Rows
end Go.Proofs.YtgcleepiopmabaaDoor
