/-
  No cell of these rows narrows 'for every input' (looked for: loops, veiled, ifaces, maps, wideKeys, modest, calm, conditions, laid).
  DERIVED. THE GIVEN ROWS OF THIS SEAT. 4 by the template 'for every input the law returns true; each argument reads behind the call as it read before'; 0 by the template 'total and deterministic' (their statements: YtkmiakgpkgmcbaaTotals.lean).
  GIVEN WITH THE SEED: the statements are not yours to turn. If you find one false, say at which input.
  Laid BY PROGRAM, IN A SANDBOX (cutbox-rows.mjs): the forced cells as the released guide's own fill.sh prints them over the translation 773e098492c64fe0… (all of the seat's roots in one cut). By AI agents, Wed Nov 11 2026. No macro, syntax, notation, axiom, sorry.
-/
import Derived.Test.YtkmiakgpkgmcbaaChecked
import GoSem.Claim
import GoSem.ClaimJoined
import GoSem.ClaimMapViews
import Derived.JoinedTies
import Derived.KernelRfl
namespace Go.Proofs.Ytkmiakgpkgmcbaa
/- THE CELL 'sum', in the pinned program and in every row, IS THE sha256 OF THE DUMP (.gsa) THAT YtkmiakgpkgmcbaaProg.lean LOADS. Nothing in Lean hashes anything: it is a label: what it is worth is what the hold of that sum in a sandbox is worth. -/
noncomputable def Try.pinned : Pinned := { name := "ytkmiakgpkgmcbaa", sum := "773e098492c64fe0804f3d17bd13aae58759b8aaefc647883dfdc80277417ca2", checked := Try.checked }
namespace Rows
def none {H : Type} : Left H := { results := [], args := [] }

/-- 'stipendlaw19.YearChecks': WHATEVER THE INPUT: true; the input reads as it did. -/
def yearChecksSpec : ChangeSpec := { name := "yearChecks", fn := fun _ => fun
  | [d1, d2] => { results := [.lit (.bool true)], args := [d1, d2] }
  | _ => none }
def yearChecksRow : OpenClaim := { program := "ytkmiakgpkgmcbaa", sum := "773e098492c64fe0804f3d17bd13aae58759b8aaefc647883dfdc80277417ca2", func := "stipend/stipendlaw19.YearChecks", spec := "yearChecks", unfollowed := true, recurses := true, apart := false }
def YearChecksSaid : Prop := yearChecksRow.holds Try.pinned (OpenSpec.ofChange yearChecksSpec)

/-- ITS FALSE NEIGHBOUR: 'it returns false'. Refute it at one input. -/
def yearChecksWrong : ChangeSpec := { name := "yearChecks", fn := fun _ => fun
  | [d1, d2] => { results := [.lit (.bool false)], args := [d1, d2] }
  | _ => none }
def YearChecksWrongFalsely : Prop := yearChecksRow.holds Try.pinned (OpenSpec.ofChange yearChecksWrong)

/-- 'stipendlaw19.YearPosts': WHATEVER THE INPUT: true; the input reads as it did. -/
def yearPostsSpec : ChangeSpec := { name := "yearPosts", fn := fun _ => fun
  | [d1, d2] => { results := [.lit (.bool true)], args := [d1, d2] }
  | _ => none }
def yearPostsRow : OpenClaim := { program := "ytkmiakgpkgmcbaa", sum := "773e098492c64fe0804f3d17bd13aae58759b8aaefc647883dfdc80277417ca2", func := "stipend/stipendlaw19.YearPosts", spec := "yearPosts", unfollowed := true, recurses := true, apart := false }
def YearPostsSaid : Prop := yearPostsRow.holds Try.pinned (OpenSpec.ofChange yearPostsSpec)

/-- ITS FALSE NEIGHBOUR: 'it returns false'. Refute it at one input. -/
def yearPostsWrong : ChangeSpec := { name := "yearPosts", fn := fun _ => fun
  | [d1, d2] => { results := [.lit (.bool false)], args := [d1, d2] }
  | _ => none }
def YearPostsWrongFalsely : Prop := yearPostsRow.holds Try.pinned (OpenSpec.ofChange yearPostsWrong)

/-- 'stipendlaw19.YearUpto': WHATEVER THE INPUT: true; the input reads as it did. -/
def yearUptoSpec : ChangeSpec := { name := "yearUpto", fn := fun _ => fun
  | [d1, d2, d3] => { results := [.lit (.bool true)], args := [d1, d2, d3] }
  | _ => none }
def yearUptoRow : OpenClaim := { program := "ytkmiakgpkgmcbaa", sum := "773e098492c64fe0804f3d17bd13aae58759b8aaefc647883dfdc80277417ca2", func := "stipend/stipendlaw19.YearUpto", spec := "yearUpto", unfollowed := true, recurses := true, apart := false }
def YearUptoSaid : Prop := yearUptoRow.holds Try.pinned (OpenSpec.ofChange yearUptoSpec)

/-- ITS FALSE NEIGHBOUR: 'it returns false'. Refute it at one input. -/
def yearUptoWrong : ChangeSpec := { name := "yearUpto", fn := fun _ => fun
  | [d1, d2, d3] => { results := [.lit (.bool false)], args := [d1, d2, d3] }
  | _ => none }
def YearUptoWrongFalsely : Prop := yearUptoRow.holds Try.pinned (OpenSpec.ofChange yearUptoWrong)

/-- 'stipendlaw19.YearOwn': WHATEVER THE INPUT: true; the input reads as it did. -/
def yearOwnSpec : ChangeSpec := { name := "yearOwn", fn := fun _ => fun
  | [d1, d2] => { results := [.lit (.bool true)], args := [d1, d2] }
  | _ => none }
def yearOwnRow : OpenClaim := { program := "ytkmiakgpkgmcbaa", sum := "773e098492c64fe0804f3d17bd13aae58759b8aaefc647883dfdc80277417ca2", func := "stipend/stipendlaw19.YearOwn", spec := "yearOwn", unfollowed := true, recurses := true, apart := false }
def YearOwnSaid : Prop := yearOwnRow.holds Try.pinned (OpenSpec.ofChange yearOwnSpec)

/-- ITS FALSE NEIGHBOUR: 'it returns false'. Refute it at one input. -/
def yearOwnWrong : ChangeSpec := { name := "yearOwn", fn := fun _ => fun
  | [d1, d2] => { results := [.lit (.bool false)], args := [d1, d2] }
  | _ => none }
def YearOwnWrongFalsely : Prop := yearOwnRow.holds Try.pinned (OpenSpec.ofChange yearOwnWrong)

/- THE SECOND FORM. 'bulk': how many values and letters a reading holds, each counted each time it is reached (what is shared counts as often as it is met; a slice's spare places count too). A statement '..UptoSaid' is the law's where the arguments, and the package variables that the reading takes, are together of bulk at most 1048576: NARROWER than '..Said'. Prove '..Said' where nothing that the law and all that it calls make is longer than what came in: it says more and counts as full. Else prove '..UptoSaid'. A law counts once. -/
mutual
def uptoBulk {H : Type} : DataW H → Nat
  | .lit (.string bytes) => bytes.length + 1
  | .lit _ => 1
  | .nil => 1
  | .ptr d => uptoBulk d + 1
  | .slice elems spare => uptoBulkAll elems + uptoBulkAll spare + 1
  | .agg parts => uptoBulkAll parts + 1
  | .iface _ d => uptoBulk d + 1
  | .map entries => uptoBulkEntries entries + 1
  | .held _ => 1
def uptoBulkAll {H : Type} : List (DataW H) → Nat
  | [] => 0
  | d :: r => uptoBulk d + uptoBulkAll r
def uptoBulkEntries {H : Type} : List (Lit × DataW H) → Nat
  | [] => 0
  | x :: r => uptoBulkEntry x + uptoBulkEntries r
def uptoBulkEntry {H : Type} : Lit × DataW H → Nat
  | (.string bytes, d) => bytes.length + uptoBulk d + 1
  | (_, d) => uptoBulk d + 1
 end
def uptoSmall : (H : Type) → List (DataW H) → Bool := fun _ ds => decide (uptoBulkAll ds ≤ 1048576)
def OpenSpec.upto (s : _root_.Go.ChangeSpec) : _root_.Go.OpenSpec := { _root_.Go.OpenSpec.ofChange s with cond := some uptoSmall }

/-- 'stipendlaw19.YearChecks', WHERE WHAT IT READS IS OF BULK AT MOST 1048576: true; the input reads as it did. -/
def yearChecksUptoRow : OpenClaim := { program := "ytkmiakgpkgmcbaa", sum := "773e098492c64fe0804f3d17bd13aae58759b8aaefc647883dfdc80277417ca2", func := "stipend/stipendlaw19.YearChecks", spec := "yearChecks", unfollowed := true, recurses := true, apart := false, narrowed := true }
def YearChecksUptoSaid : Prop := yearChecksUptoRow.holds Try.pinned (OpenSpec.upto yearChecksSpec)

/-- 'stipendlaw19.YearPosts', WHERE WHAT IT READS IS OF BULK AT MOST 1048576: true; the input reads as it did. -/
def yearPostsUptoRow : OpenClaim := { program := "ytkmiakgpkgmcbaa", sum := "773e098492c64fe0804f3d17bd13aae58759b8aaefc647883dfdc80277417ca2", func := "stipend/stipendlaw19.YearPosts", spec := "yearPosts", unfollowed := true, recurses := true, apart := false, narrowed := true }
def YearPostsUptoSaid : Prop := yearPostsUptoRow.holds Try.pinned (OpenSpec.upto yearPostsSpec)

/-- 'stipendlaw19.YearUpto', WHERE WHAT IT READS IS OF BULK AT MOST 1048576: true; the input reads as it did. -/
def yearUptoUptoRow : OpenClaim := { program := "ytkmiakgpkgmcbaa", sum := "773e098492c64fe0804f3d17bd13aae58759b8aaefc647883dfdc80277417ca2", func := "stipend/stipendlaw19.YearUpto", spec := "yearUpto", unfollowed := true, recurses := true, apart := false, narrowed := true }
def YearUptoUptoSaid : Prop := yearUptoUptoRow.holds Try.pinned (OpenSpec.upto yearUptoSpec)

/-- 'stipendlaw19.YearOwn', WHERE WHAT IT READS IS OF BULK AT MOST 1048576: true; the input reads as it did. -/
def yearOwnUptoRow : OpenClaim := { program := "ytkmiakgpkgmcbaa", sum := "773e098492c64fe0804f3d17bd13aae58759b8aaefc647883dfdc80277417ca2", func := "stipend/stipendlaw19.YearOwn", spec := "yearOwn", unfollowed := true, recurses := true, apart := false, narrowed := true }
def YearOwnUptoSaid : Prop := yearOwnUptoRow.holds Try.pinned (OpenSpec.upto yearOwnSpec)

end Rows
end Go.Proofs.Ytkmiakgpkgmcbaa
