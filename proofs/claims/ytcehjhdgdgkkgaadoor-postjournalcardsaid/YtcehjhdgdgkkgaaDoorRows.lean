/-
  NARROWER THAN 'FOR EVERY INPUT', by the rows' own cells (each row's printed sentence says how): PostBooks: laid · PostReverse: laid · PostChecks: laid · PostLines: laid · PostSlips: laid · PostJournal: laid.
  DERIVED. THE GIVEN ROWS OF THIS SEAT. 6 by the template 'for every input the law returns true; each argument reads behind the call as it read before'; 0 by the template 'total and deterministic' (their statements: YtcehjhdgdgkkgaaDoorTotals.lean).
  GIVEN WITH THE SEED: the statements are not yours to turn. If you find one false, say at which input.
  Laid BY PROGRAM, IN A SANDBOX (cutbox-rows.mjs): the forced cells as the released guide's own fill.sh prints them over the translation b76ca143f97cf5d3… (all of the seat's roots in one cut). By AI agents, Wed Nov 11 2026. No macro, syntax, notation, axiom, sorry.
-/
import Derived.Test.YtcehjhdgdgkkgaaDoorChecked
import GoSem.Claim
import GoSem.ClaimJoined
import GoSem.ClaimMapViews
import Derived.JoinedTies
import Derived.KernelRfl
namespace Go.Proofs.YtcehjhdgdgkkgaaDoor
/- THE CELL 'sum', in the pinned program and in every row, IS THE sha256 OF THE DUMP (.gsa) THAT YtcehjhdgdgkkgaaDoorProg.lean LOADS. Nothing in Lean hashes anything: it is a label: what it is worth is what the hold of that sum in a sandbox is worth. -/
noncomputable def Tryd.pinned : Pinned := { name := "ytcehjhdgdgkkgaadoor", sum := "b76ca143f97cf5d3def924adf3823358819cf12e0559318c238aece476ef45c2", checked := Tryd.checked }
namespace Rows
def none {H : Type} : Left H := { results := [], args := [] }

/- WHAT THE LISTED PACKAGE-LEVEL VARIABLES READ AS WHEN THE CALL BEGINS. Each datum BY PROGRAM (the guide's laid-datum.mjs) off the statement by which the dump's own 'gosem.cut.vars' lays the variable. In a bare row this is a premise. The card (YtcehjhdgdgkkgaaDoorCards.lean) ties it to the program's text. -/
def laid_math_bits_deBruijn32tab {H : Type} : DataW H := .agg [.lit (.int .u8 0), .lit (.int .u8 1), .lit (.int .u8 28), .lit (.int .u8 2), .lit (.int .u8 29), .lit (.int .u8 14), .lit (.int .u8 24), .lit (.int .u8 3), .lit (.int .u8 30), .lit (.int .u8 22), .lit (.int .u8 20), .lit (.int .u8 15), .lit (.int .u8 25), .lit (.int .u8 17), .lit (.int .u8 4), .lit (.int .u8 8), .lit (.int .u8 31), .lit (.int .u8 27), .lit (.int .u8 13), .lit (.int .u8 23), .lit (.int .u8 21), .lit (.int .u8 19), .lit (.int .u8 16), .lit (.int .u8 7), .lit (.int .u8 26), .lit (.int .u8 12), .lit (.int .u8 18), .lit (.int .u8 6), .lit (.int .u8 11), .lit (.int .u8 5), .lit (.int .u8 10), .lit (.int .u8 9)]
def laid_math_bits_deBruijn64tab {H : Type} : DataW H := .agg [.lit (.int .u8 0), .lit (.int .u8 1), .lit (.int .u8 56), .lit (.int .u8 2), .lit (.int .u8 57), .lit (.int .u8 49), .lit (.int .u8 28), .lit (.int .u8 3), .lit (.int .u8 61), .lit (.int .u8 58), .lit (.int .u8 42), .lit (.int .u8 50), .lit (.int .u8 38), .lit (.int .u8 29), .lit (.int .u8 17), .lit (.int .u8 4), .lit (.int .u8 62), .lit (.int .u8 47), .lit (.int .u8 59), .lit (.int .u8 36), .lit (.int .u8 45), .lit (.int .u8 43), .lit (.int .u8 51), .lit (.int .u8 22), .lit (.int .u8 53), .lit (.int .u8 39), .lit (.int .u8 33), .lit (.int .u8 30), .lit (.int .u8 24), .lit (.int .u8 18), .lit (.int .u8 12), .lit (.int .u8 5), .lit (.int .u8 63), .lit (.int .u8 55), .lit (.int .u8 48), .lit (.int .u8 27), .lit (.int .u8 60), .lit (.int .u8 41), .lit (.int .u8 37), .lit (.int .u8 16), .lit (.int .u8 46), .lit (.int .u8 35), .lit (.int .u8 44), .lit (.int .u8 21), .lit (.int .u8 52), .lit (.int .u8 32), .lit (.int .u8 23), .lit (.int .u8 11), .lit (.int .u8 54), .lit (.int .u8 26), .lit (.int .u8 40), .lit (.int .u8 15), .lit (.int .u8 34), .lit (.int .u8 20), .lit (.int .u8 31), .lit (.int .u8 10), .lit (.int .u8 25), .lit (.int .u8 14), .lit (.int .u8 19), .lit (.int .u8 9), .lit (.int .u8 13), .lit (.int .u8 8), .lit (.int .u8 7), .lit (.int .u8 6)]
def laid_internal_strconv_uint64pow10 {H : Type} : DataW H := .agg [.lit (.int .u64 1), .lit (.int .u64 10), .lit (.int .u64 100), .lit (.int .u64 1000), .lit (.int .u64 10000), .lit (.int .u64 100000), .lit (.int .u64 1000000), .lit (.int .u64 10000000), .lit (.int .u64 100000000), .lit (.int .u64 1000000000), .lit (.int .u64 10000000000), .lit (.int .u64 100000000000), .lit (.int .u64 1000000000000), .lit (.int .u64 10000000000000), .lit (.int .u64 100000000000000), .lit (.int .u64 1000000000000000), .lit (.int .u64 10000000000000000), .lit (.int .u64 100000000000000000), .lit (.int .u64 1000000000000000000), .lit (.int .u64 10000000000000000000)]

/-- 'stipendlaw22.PostBooks': WHATEVER THE INPUT: true; the input reads as it did. -/
def postBooksSpec : ChangeSpec := { name := "postBooks", fn := fun _ => fun
  | [d] => { results := [.lit (.bool true)], args := [d] }
  | _ => none }
def postBooksRow : OpenClaim := { program := "ytcehjhdgdgkkgaadoor", sum := "b76ca143f97cf5d3def924adf3823358819cf12e0559318c238aece476ef45c2", func := "stipend/stipendlaw22.PostBooks", spec := "postBooks", inPlace := ["internal/abi.NoEscape", "internal/bytealg.MakeNoZero"], unfollowed := true, recurses := true, named := ["internal/strconv.uint64pow10", "math/bits.deBruijn32tab", "math/bits.deBruijn64tab"], apart := false, laid := [("math/bits.deBruijn32tab", laid_math_bits_deBruijn32tab), ("math/bits.deBruijn64tab", laid_math_bits_deBruijn64tab), ("internal/strconv.uint64pow10", laid_internal_strconv_uint64pow10)] }
def PostBooksSaid : Prop := postBooksRow.holds Tryd.pinned (OpenSpec.ofChange postBooksSpec)

/-- ITS FALSE NEIGHBOUR: 'it returns false'. Refute it at one input. -/
def postBooksWrong : ChangeSpec := { name := "postBooks", fn := fun _ => fun
  | [d] => { results := [.lit (.bool false)], args := [d] }
  | _ => none }
def PostBooksWrongFalsely : Prop := postBooksRow.holds Tryd.pinned (OpenSpec.ofChange postBooksWrong)

/-- 'stipendlaw22.PostReverse': WHATEVER THE INPUT: true; the input reads as it did. -/
def postReverseSpec : ChangeSpec := { name := "postReverse", fn := fun _ => fun
  | [d] => { results := [.lit (.bool true)], args := [d] }
  | _ => none }
def postReverseRow : OpenClaim := { program := "ytcehjhdgdgkkgaadoor", sum := "b76ca143f97cf5d3def924adf3823358819cf12e0559318c238aece476ef45c2", func := "stipend/stipendlaw22.PostReverse", spec := "postReverse", inPlace := ["internal/abi.NoEscape", "internal/bytealg.MakeNoZero"], unfollowed := true, recurses := true, named := ["internal/strconv.uint64pow10", "math/bits.deBruijn32tab", "math/bits.deBruijn64tab"], apart := false, laid := [("math/bits.deBruijn32tab", laid_math_bits_deBruijn32tab), ("math/bits.deBruijn64tab", laid_math_bits_deBruijn64tab), ("internal/strconv.uint64pow10", laid_internal_strconv_uint64pow10)] }
def PostReverseSaid : Prop := postReverseRow.holds Tryd.pinned (OpenSpec.ofChange postReverseSpec)

/-- ITS FALSE NEIGHBOUR: 'it returns false'. Refute it at one input. -/
def postReverseWrong : ChangeSpec := { name := "postReverse", fn := fun _ => fun
  | [d] => { results := [.lit (.bool false)], args := [d] }
  | _ => none }
def PostReverseWrongFalsely : Prop := postReverseRow.holds Tryd.pinned (OpenSpec.ofChange postReverseWrong)

/-- 'stipendlaw22.PostChecks': WHATEVER THE INPUT: true; the input reads as it did. -/
def postChecksSpec : ChangeSpec := { name := "postChecks", fn := fun _ => fun
  | [d] => { results := [.lit (.bool true)], args := [d] }
  | _ => none }
def postChecksRow : OpenClaim := { program := "ytcehjhdgdgkkgaadoor", sum := "b76ca143f97cf5d3def924adf3823358819cf12e0559318c238aece476ef45c2", func := "stipend/stipendlaw22.PostChecks", spec := "postChecks", inPlace := ["internal/abi.NoEscape", "internal/bytealg.MakeNoZero"], unfollowed := true, recurses := true, named := ["internal/strconv.uint64pow10", "math/bits.deBruijn32tab", "math/bits.deBruijn64tab"], apart := false, laid := [("math/bits.deBruijn32tab", laid_math_bits_deBruijn32tab), ("math/bits.deBruijn64tab", laid_math_bits_deBruijn64tab), ("internal/strconv.uint64pow10", laid_internal_strconv_uint64pow10)] }
def PostChecksSaid : Prop := postChecksRow.holds Tryd.pinned (OpenSpec.ofChange postChecksSpec)

/-- ITS FALSE NEIGHBOUR: 'it returns false'. Refute it at one input. -/
def postChecksWrong : ChangeSpec := { name := "postChecks", fn := fun _ => fun
  | [d] => { results := [.lit (.bool false)], args := [d] }
  | _ => none }
def PostChecksWrongFalsely : Prop := postChecksRow.holds Tryd.pinned (OpenSpec.ofChange postChecksWrong)

/-- 'stipendlaw22.PostLines': WHATEVER THE INPUT: true; the input reads as it did. -/
def postLinesSpec : ChangeSpec := { name := "postLines", fn := fun _ => fun
  | [d] => { results := [.lit (.bool true)], args := [d] }
  | _ => none }
def postLinesRow : OpenClaim := { program := "ytcehjhdgdgkkgaadoor", sum := "b76ca143f97cf5d3def924adf3823358819cf12e0559318c238aece476ef45c2", func := "stipend/stipendlaw22.PostLines", spec := "postLines", inPlace := ["internal/abi.NoEscape", "internal/bytealg.MakeNoZero"], unfollowed := true, recurses := true, named := ["internal/strconv.uint64pow10", "math/bits.deBruijn32tab", "math/bits.deBruijn64tab"], apart := false, laid := [("math/bits.deBruijn32tab", laid_math_bits_deBruijn32tab), ("math/bits.deBruijn64tab", laid_math_bits_deBruijn64tab), ("internal/strconv.uint64pow10", laid_internal_strconv_uint64pow10)] }
def PostLinesSaid : Prop := postLinesRow.holds Tryd.pinned (OpenSpec.ofChange postLinesSpec)

/-- ITS FALSE NEIGHBOUR: 'it returns false'. Refute it at one input. -/
def postLinesWrong : ChangeSpec := { name := "postLines", fn := fun _ => fun
  | [d] => { results := [.lit (.bool false)], args := [d] }
  | _ => none }
def PostLinesWrongFalsely : Prop := postLinesRow.holds Tryd.pinned (OpenSpec.ofChange postLinesWrong)

/-- 'stipendlaw22.PostSlips': WHATEVER THE INPUT: true; the input reads as it did. -/
def postSlipsSpec : ChangeSpec := { name := "postSlips", fn := fun _ => fun
  | [d1, d2] => { results := [.lit (.bool true)], args := [d1, d2] }
  | _ => none }
def postSlipsRow : OpenClaim := { program := "ytcehjhdgdgkkgaadoor", sum := "b76ca143f97cf5d3def924adf3823358819cf12e0559318c238aece476ef45c2", func := "stipend/stipendlaw22.PostSlips", spec := "postSlips", inPlace := ["internal/abi.NoEscape", "internal/bytealg.MakeNoZero"], unfollowed := true, recurses := true, named := ["internal/strconv.uint64pow10", "math/bits.deBruijn32tab", "math/bits.deBruijn64tab"], apart := false, laid := [("math/bits.deBruijn32tab", laid_math_bits_deBruijn32tab), ("math/bits.deBruijn64tab", laid_math_bits_deBruijn64tab), ("internal/strconv.uint64pow10", laid_internal_strconv_uint64pow10)] }
def PostSlipsSaid : Prop := postSlipsRow.holds Tryd.pinned (OpenSpec.ofChange postSlipsSpec)

/-- ITS FALSE NEIGHBOUR: 'it returns false'. Refute it at one input. -/
def postSlipsWrong : ChangeSpec := { name := "postSlips", fn := fun _ => fun
  | [d1, d2] => { results := [.lit (.bool false)], args := [d1, d2] }
  | _ => none }
def PostSlipsWrongFalsely : Prop := postSlipsRow.holds Tryd.pinned (OpenSpec.ofChange postSlipsWrong)

/-- 'stipendlaw22.PostJournal': WHATEVER THE INPUT: true; the input reads as it did. -/
def postJournalSpec : ChangeSpec := { name := "postJournal", fn := fun _ => fun
  | [d1, d2] => { results := [.lit (.bool true)], args := [d1, d2] }
  | _ => none }
def postJournalRow : OpenClaim := { program := "ytcehjhdgdgkkgaadoor", sum := "b76ca143f97cf5d3def924adf3823358819cf12e0559318c238aece476ef45c2", func := "stipend/stipendlaw22.PostJournal", spec := "postJournal", inPlace := ["internal/abi.NoEscape", "internal/bytealg.MakeNoZero"], unfollowed := true, recurses := true, named := ["internal/strconv.uint64pow10", "math/bits.deBruijn32tab", "math/bits.deBruijn64tab"], apart := false, laid := [("math/bits.deBruijn32tab", laid_math_bits_deBruijn32tab), ("math/bits.deBruijn64tab", laid_math_bits_deBruijn64tab), ("internal/strconv.uint64pow10", laid_internal_strconv_uint64pow10)] }
def PostJournalSaid : Prop := postJournalRow.holds Tryd.pinned (OpenSpec.ofChange postJournalSpec)

/-- ITS FALSE NEIGHBOUR: 'it returns false'. Refute it at one input. -/
def postJournalWrong : ChangeSpec := { name := "postJournal", fn := fun _ => fun
  | [d1, d2] => { results := [.lit (.bool false)], args := [d1, d2] }
  | _ => none }
def PostJournalWrongFalsely : Prop := postJournalRow.holds Tryd.pinned (OpenSpec.ofChange postJournalWrong)

/- THE SECOND FORM. 'bulk': how many values and letters a reading holds, each counted each time it is reached (what is shared counts as often as it is met; a slice's spare places count too). A statement '..UptoSaid' is the law's where the arguments, and the package variables that the reading takes, are together of bulk at most 1048576: NARROWER than '..Said'. Prove '..Said' where nothing that the law and all that it calls make is longer than what came in: it says more and counts as full. Else prove '..UptoSaid'. A law counts once. -/
mutual
def uptoBulk {H : Type} : DataW H → Nat
  | .lit (.string bytes) => bytes.length + 1
  | .lit _ => 1
  | .nil => 1
  | .ptr d => uptoBulk d + 1
  | .slice elems spare => uptoBulkAll elems + uptoBulkAll spare + 1
  | .agg parts => uptoBulkAll parts + 1
  | .iface _ d => uptoBulk d + 1
  | .map entries => uptoBulkEntries entries + 1
  | .held _ => 1
def uptoBulkAll {H : Type} : List (DataW H) → Nat
  | [] => 0
  | d :: r => uptoBulk d + uptoBulkAll r
def uptoBulkEntries {H : Type} : List (Lit × DataW H) → Nat
  | [] => 0
  | x :: r => uptoBulkEntry x + uptoBulkEntries r
def uptoBulkEntry {H : Type} : Lit × DataW H → Nat
  | (.string bytes, d) => bytes.length + uptoBulk d + 1
  | (_, d) => uptoBulk d + 1
 end
def uptoSmall : (H : Type) → List (DataW H) → Bool := fun _ ds => decide (uptoBulkAll ds ≤ 1048576)
def OpenSpec.upto (s : _root_.Go.ChangeSpec) : _root_.Go.OpenSpec := { _root_.Go.OpenSpec.ofChange s with cond := some uptoSmall }

/-- 'stipendlaw22.PostBooks', WHERE WHAT IT READS IS OF BULK AT MOST 1048576: true; the input reads as it did. -/
def postBooksUptoRow : OpenClaim := { program := "ytcehjhdgdgkkgaadoor", sum := "b76ca143f97cf5d3def924adf3823358819cf12e0559318c238aece476ef45c2", func := "stipend/stipendlaw22.PostBooks", spec := "postBooks", inPlace := ["internal/abi.NoEscape", "internal/bytealg.MakeNoZero"], unfollowed := true, recurses := true, named := ["internal/strconv.uint64pow10", "math/bits.deBruijn32tab", "math/bits.deBruijn64tab"], apart := false, laid := [("math/bits.deBruijn32tab", laid_math_bits_deBruijn32tab), ("math/bits.deBruijn64tab", laid_math_bits_deBruijn64tab), ("internal/strconv.uint64pow10", laid_internal_strconv_uint64pow10)], narrowed := true }
def PostBooksUptoSaid : Prop := postBooksUptoRow.holds Tryd.pinned (OpenSpec.upto postBooksSpec)

/-- 'stipendlaw22.PostReverse', WHERE WHAT IT READS IS OF BULK AT MOST 1048576: true; the input reads as it did. -/
def postReverseUptoRow : OpenClaim := { program := "ytcehjhdgdgkkgaadoor", sum := "b76ca143f97cf5d3def924adf3823358819cf12e0559318c238aece476ef45c2", func := "stipend/stipendlaw22.PostReverse", spec := "postReverse", inPlace := ["internal/abi.NoEscape", "internal/bytealg.MakeNoZero"], unfollowed := true, recurses := true, named := ["internal/strconv.uint64pow10", "math/bits.deBruijn32tab", "math/bits.deBruijn64tab"], apart := false, laid := [("math/bits.deBruijn32tab", laid_math_bits_deBruijn32tab), ("math/bits.deBruijn64tab", laid_math_bits_deBruijn64tab), ("internal/strconv.uint64pow10", laid_internal_strconv_uint64pow10)], narrowed := true }
def PostReverseUptoSaid : Prop := postReverseUptoRow.holds Tryd.pinned (OpenSpec.upto postReverseSpec)

/-- 'stipendlaw22.PostChecks', WHERE WHAT IT READS IS OF BULK AT MOST 1048576: true; the input reads as it did. -/
def postChecksUptoRow : OpenClaim := { program := "ytcehjhdgdgkkgaadoor", sum := "b76ca143f97cf5d3def924adf3823358819cf12e0559318c238aece476ef45c2", func := "stipend/stipendlaw22.PostChecks", spec := "postChecks", inPlace := ["internal/abi.NoEscape", "internal/bytealg.MakeNoZero"], unfollowed := true, recurses := true, named := ["internal/strconv.uint64pow10", "math/bits.deBruijn32tab", "math/bits.deBruijn64tab"], apart := false, laid := [("math/bits.deBruijn32tab", laid_math_bits_deBruijn32tab), ("math/bits.deBruijn64tab", laid_math_bits_deBruijn64tab), ("internal/strconv.uint64pow10", laid_internal_strconv_uint64pow10)], narrowed := true }
def PostChecksUptoSaid : Prop := postChecksUptoRow.holds Tryd.pinned (OpenSpec.upto postChecksSpec)

/-- 'stipendlaw22.PostLines', WHERE WHAT IT READS IS OF BULK AT MOST 1048576: true; the input reads as it did. -/
def postLinesUptoRow : OpenClaim := { program := "ytcehjhdgdgkkgaadoor", sum := "b76ca143f97cf5d3def924adf3823358819cf12e0559318c238aece476ef45c2", func := "stipend/stipendlaw22.PostLines", spec := "postLines", inPlace := ["internal/abi.NoEscape", "internal/bytealg.MakeNoZero"], unfollowed := true, recurses := true, named := ["internal/strconv.uint64pow10", "math/bits.deBruijn32tab", "math/bits.deBruijn64tab"], apart := false, laid := [("math/bits.deBruijn32tab", laid_math_bits_deBruijn32tab), ("math/bits.deBruijn64tab", laid_math_bits_deBruijn64tab), ("internal/strconv.uint64pow10", laid_internal_strconv_uint64pow10)], narrowed := true }
def PostLinesUptoSaid : Prop := postLinesUptoRow.holds Tryd.pinned (OpenSpec.upto postLinesSpec)

/-- 'stipendlaw22.PostSlips', WHERE WHAT IT READS IS OF BULK AT MOST 1048576: true; the input reads as it did. -/
def postSlipsUptoRow : OpenClaim := { program := "ytcehjhdgdgkkgaadoor", sum := "b76ca143f97cf5d3def924adf3823358819cf12e0559318c238aece476ef45c2", func := "stipend/stipendlaw22.PostSlips", spec := "postSlips", inPlace := ["internal/abi.NoEscape", "internal/bytealg.MakeNoZero"], unfollowed := true, recurses := true, named := ["internal/strconv.uint64pow10", "math/bits.deBruijn32tab", "math/bits.deBruijn64tab"], apart := false, laid := [("math/bits.deBruijn32tab", laid_math_bits_deBruijn32tab), ("math/bits.deBruijn64tab", laid_math_bits_deBruijn64tab), ("internal/strconv.uint64pow10", laid_internal_strconv_uint64pow10)], narrowed := true }
def PostSlipsUptoSaid : Prop := postSlipsUptoRow.holds Tryd.pinned (OpenSpec.upto postSlipsSpec)

/-- 'stipendlaw22.PostJournal', WHERE WHAT IT READS IS OF BULK AT MOST 1048576: true; the input reads as it did. -/
def postJournalUptoRow : OpenClaim := { program := "ytcehjhdgdgkkgaadoor", sum := "b76ca143f97cf5d3def924adf3823358819cf12e0559318c238aece476ef45c2", func := "stipend/stipendlaw22.PostJournal", spec := "postJournal", inPlace := ["internal/abi.NoEscape", "internal/bytealg.MakeNoZero"], unfollowed := true, recurses := true, named := ["internal/strconv.uint64pow10", "math/bits.deBruijn32tab", "math/bits.deBruijn64tab"], apart := false, laid := [("math/bits.deBruijn32tab", laid_math_bits_deBruijn32tab), ("math/bits.deBruijn64tab", laid_math_bits_deBruijn64tab), ("internal/strconv.uint64pow10", laid_internal_strconv_uint64pow10)], narrowed := true }
def PostJournalUptoSaid : Prop := postJournalUptoRow.holds Tryd.pinned (OpenSpec.upto postJournalSpec)

end Rows
end Go.Proofs.YtcehjhdgdgkkgaaDoor
