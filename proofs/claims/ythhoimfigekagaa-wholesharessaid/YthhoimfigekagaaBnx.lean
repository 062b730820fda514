/- Bands: the greatest rate. -/
import Derived.Test.YthhoimfigekagaaBand
namespace Go.Rx
open Go.Proofs
set_option linter.unusedSimpArgs false
set_option linter.unusedVariables false

def bOfS (f r e : Int) : SV := .agg [.int .i64 f, .int .i64 r, .int .i64 e]

def topN (l : List SV) : Nat → Int
  | 0 => 0
  | i + 1 => maxV (topN l i) (bd l i 1)
def topS (l : List SV) : Int := topN l l.length
end Go.Rx
