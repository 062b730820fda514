/- Fractions: the laws. -/
import Derived.Test.YtegikglikagncaaFrac2
namespace Go.Rx
open Go.Proofs
set_option linter.unusedSimpArgs false
set_option linter.unusedVariables false

def greatB (x : Int) : Bool := decide (2305843009213693952 < x) || decide (x < -2305843009213693952)
def fmodes_an (n d : Int) : Nat → Option Ann
  | 0 => some ⟨Int, fun k => ⟨[(0, .int .i64 n), (1, .int .i64 d), (5, .int .i64 (roundS n d 1)), (7, .int .i64 (roundS n d 2)), (9, .int .i64 (roundS (-n) d 1)), (11, .int .i64 k)], []⟩, fun k => 1 ≤ k ∧ k ≤ 7 ∧ 0 < d ∧ in64 n ∧ in64 d ∧ in64 (-n), fun k => (7 - k).toNat, [0, 1, 5, 7, 9, 11], [], []⟩
  | _ => none

def sh_great : List SV → Option (Int)
  | [.int .i64 x] => some x
  | _ => none
def em_great : Int → List SV := fun x => [.int .i64 x]
theorem sh_great_le : ∀ us a, sh_great us = some a → leL us (em_great a) := by
  intro us a h
  unfold sh_great at h
  split at h
  · cases h; exact (.cons (.refl _) .nil)
  · cases h
def greatC : Con := conOf sh_great (fun _ => none) (fun x => .bool (greatB x))
set_option maxRecDepth 100000 in
theorem vc_great (x : Int) : (wpF ⟨9, tyT, [], false⟩ (noAnn) [] Try.f11 (em_great x) (.bool (greatB x))) = ((((decide ((2305843009213693952 : Int) < x) = true) → ((greatB x = true) ∧ (True))) ∧ ((decide ((2305843009213693952 : Int) < x) = false) → ((decide (x < (-2305843009213693952 : Int)) = greatB x) ∧ (True))))) := by kernel_rfl
def sh_parts : List SV → Option (Unit)
  | [] => some ()
  | _ => none
def em_parts : Unit → List SV := fun _ => []
theorem sh_parts_le : ∀ us a, sh_parts us = some a → leL us (em_parts a) := by
  intro us a h
  unfold sh_parts at h
  split at h
  · cases h; exact .nil
  · cases h
def partsC : Con := conOf sh_parts (fun _ => none) (fun _ => .bool true)
set_option maxRecDepth 100000 in
theorem vc_parts (_u : Unit) : (wpF ⟨97, tyT, [(18, takeC), (10, roundC), (12, scaleC), (13, cmpC), (14, lowC), (21, modeC), (22, rateC)], false⟩ (noAnn) [] Try.f9 (em_parts ()) (.bool true)) = ((Ob (((in64 (-5 : Int)) ∧ (in64 (2 : Int)))) ∧ (Ob (((in64 (-5 : Int)) ∧ (in64 (2 : Int)))) ∧ (Ob (((in64 (1 : Int)) ∧ (in64 (3 : Int)))) ∧ (Ob (((in64 (1 : Int)) ∧ ((in64 (3 : Int)) ∧ ((in64 (2 : Int)) ∧ (in64 (6 : Int)))))) ∧ (Ob (((in64 (-6 : Int)) ∧ (in64 (4 : Int)))) ∧ (((decide ((0 : Int) = (0 : Int)) = true) → (((decide ((50 : Int) = (50 : Int)) = true) → (((decide ((-3 : Int) = (-3 : Int)) = true) → (((decide ((-2 : Int) = (-2 : Int)) = true) → (((decide ((333 : Int) = (333 : Int)) = true) → (((decide ((0 : Int) = (0 : Int)) = true) → (((decide ((-3 : Int) = (-3 : Int)) = true) → ((((bif bif decide ((2 : Int) = (2 : Int)) then true else false then true else false) = true) → (((modeB (6 : Int) = true) → ((((!modeB (7 : Int)) = true) → (((rateB (10000 : Int) = true) → (((!rateB (-1 : Int)) = true) ∧ (True))) ∧ ((rateB (10000 : Int) = false) → ((true = false) ∧ (True))))) ∧ (((!modeB (7 : Int)) = false) → ((true = false) ∧ (True))))) ∧ ((modeB (6 : Int) = false) → ((true = false) ∧ (True))))) ∧ (((bif bif decide ((2 : Int) = (2 : Int)) then true else false then true else false) = false) → ((true = false) ∧ (True))))) ∧ ((decide ((-3 : Int) = (-3 : Int)) = false) → ((true = false) ∧ (True))))) ∧ ((decide ((0 : Int) = (0 : Int)) = false) → ((true = false) ∧ (True))))) ∧ ((decide ((333 : Int) = (333 : Int)) = false) → ((true = false) ∧ (True))))) ∧ ((decide ((-2 : Int) = (-2 : Int)) = false) → ((true = false) ∧ (True))))) ∧ ((decide ((-3 : Int) = (-3 : Int)) = false) → ((true = false) ∧ (True))))) ∧ ((decide ((50 : Int) = (50 : Int)) = false) → ((true = false) ∧ (True))))) ∧ ((decide ((0 : Int) = (0 : Int)) = false) → ((true = false) ∧ (True)))))))))) := by kernel_rfl
def sh_frounds : List SV → Option (Int × Int × Int)
  | [.int .i64 n, .int .i64 d, .int .i64 mode] => some (n, d, mode)
  | _ => none
def em_frounds : Int × Int × Int → List SV := fun (n, d, mode) => [.int .i64 n, .int .i64 d, .int .i64 mode]
theorem sh_frounds_le : ∀ us a, sh_frounds us = some a → leL us (em_frounds a) := by
  intro us a h
  unfold sh_frounds at h
  split at h
  · cases h; exact (.cons (.refl _) (.cons (.refl _) (.cons (.refl _) .nil)))
  · cases h
def froundsC : Con := conOf sh_frounds (fun (n, d, mode) => some (Ob (in64 n ∧ in64 d ∧ in64 mode))) (fun (n, d, mode) => .bool true)
set_option maxRecDepth 100000 in
theorem vc_frounds (n : Int) (d : Int) (mode : Int) : (wpF ⟨175, tyT, [(9, partsC), (10, roundC), (11, greatC)], false⟩ (noAnn) [] Try.f3 (em_frounds (n, d, mode)) (.bool true)) = (((((!true) = true) → ((true = false) ∧ (True))) ∧ (((!true) = false) → (Ob (((in64 n) ∧ (in64 d))) ∧ (((decide (d ≤ (0 : Int)) = true) → (((decide (rngE (roundB d mode) = (1 : Int)) = true) → ((decide (roundV n d mode = (0 : Int)) = true) ∧ (True))) ∧ ((decide (rngE (roundB d mode) = (1 : Int)) = false) → ((true = false) ∧ (True))))) ∧ ((decide (d ≤ (0 : Int)) = false) → (((decide (mode < (1 : Int)) = true) → (((decide (rngE (roundB d mode) = (1 : Int)) = true) → ((decide (roundV n d mode = (0 : Int)) = true) ∧ (True))) ∧ ((decide (rngE (roundB d mode) = (1 : Int)) = false) → ((true = false) ∧ (True))))) ∧ ((decide (mode < (1 : Int)) = false) → (((decide ((6 : Int) < mode) = true) → (((decide (rngE (roundB d mode) = (1 : Int)) = true) → ((decide (roundV n d mode = (0 : Int)) = true) ∧ (True))) ∧ ((decide (rngE (roundB d mode) = (1 : Int)) = false) → ((true = false) ∧ (True))))) ∧ ((decide ((6 : Int) < mode) = false) → ((((!decide (rngE (roundB d mode) = (0 : Int))) = true) → ((true = false) ∧ (True))) ∧ (((!decide (rngE (roundB d mode) = (0 : Int))) = false) → (((greatB n = true) → ((true = true) ∧ (True))) ∧ ((greatB n = false) → (((greatB d = true) → ((true = true) ∧ (True))) ∧ ((greatB d = false) → (((decide (IntKind.i64.wrap (n - IntKind.i64.wrap (roundV n d mode * d)) ≤ IntKind.i64.wrap ((0 : Int) - d)) = true) → ((true = false) ∧ (True))) ∧ ((decide (IntKind.i64.wrap (n - IntKind.i64.wrap (roundV n d mode * d)) ≤ IntKind.i64.wrap ((0 : Int) - d)) = false) → (((decide (d ≤ IntKind.i64.wrap (n - IntKind.i64.wrap (roundV n d mode * d))) = true) → ((true = false) ∧ (True))) ∧ ((decide (d ≤ IntKind.i64.wrap (n - IntKind.i64.wrap (roundV n d mode * d))) = false) → (((decide (IntKind.i64.wrap (n - IntKind.i64.wrap (roundV n d mode * d)) = (0 : Int)) = true) → (Ob ((d ≠ (0 : Int))) ∧ ((((!decide (n.tmod d = (0 : Int))) = true) → ((true = false) ∧ (True))) ∧ (((!decide (n.tmod d = (0 : Int))) = false) → (((decide (mode = (1 : Int)) = true) → ((decide ((0 : Int) ≤ IntKind.i64.wrap (n - IntKind.i64.wrap (roundV n d mode * d))) = true) ∧ (True))) ∧ ((decide (mode = (1 : Int)) = false) → (((decide (mode = (2 : Int)) = true) → ((decide (IntKind.i64.wrap (n - IntKind.i64.wrap (roundV n d mode * d)) ≤ (0 : Int)) = true) ∧ (True))) ∧ ((decide (mode = (2 : Int)) = false) → (((decide (mode = (3 : Int)) = true) → (((decide (IntKind.i64.wrap (n - IntKind.i64.wrap (roundV n d mode * d)) = (0 : Int)) = true) → ((true = true) ∧ (True))) ∧ ((decide (IntKind.i64.wrap (n - IntKind.i64.wrap (roundV n d mode * d)) = (0 : Int)) = false) → (((decide ((0 : Int) < IntKind.i64.wrap (n - IntKind.i64.wrap (roundV n d mode * d))) == decide ((0 : Int) < n)) = true) ∧ (True))))) ∧ ((decide (mode = (3 : Int)) = false) → (((decide (mode = (4 : Int)) = true) → (((decide (IntKind.i64.wrap ((2 : Int) * IntKind.i64.wrap (n - IntKind.i64.wrap (roundV n d mode * d))) < d) = true) → (((decide (IntKind.i64.wrap ((0 : Int) - d) < IntKind.i64.wrap ((2 : Int) * IntKind.i64.wrap (n - IntKind.i64.wrap (roundV n d mode * d)))) = true) → ((true = true) ∧ (True))) ∧ ((decide (IntKind.i64.wrap ((0 : Int) - d) < IntKind.i64.wrap ((2 : Int) * IntKind.i64.wrap (n - IntKind.i64.wrap (roundV n d mode * d)))) = false) → (((decide (IntKind.i64.wrap ((2 : Int) * IntKind.i64.wrap (n - IntKind.i64.wrap (roundV n d mode * d))) = d) = true) → (((decide (n < (0 : Int)) = true) → ((true = true) ∧ (True))) ∧ ((decide (n < (0 : Int)) = false) → (((decide (IntKind.i64.wrap ((2 : Int) * IntKind.i64.wrap (n - IntKind.i64.wrap (roundV n d mode * d))) = IntKind.i64.wrap ((0 : Int) - d)) = true) → ((decide ((0 : Int) < n) = true) ∧ (True))) ∧ ((decide (IntKind.i64.wrap ((2 : Int) * IntKind.i64.wrap (n - IntKind.i64.wrap (roundV n d mode * d))) = IntKind.i64.wrap ((0 : Int) - d)) = false) → ((true = false) ∧ (True))))))) ∧ ((decide (IntKind.i64.wrap ((2 : Int) * IntKind.i64.wrap (n - IntKind.i64.wrap (roundV n d mode * d))) = d) = false) → (((decide (IntKind.i64.wrap ((2 : Int) * IntKind.i64.wrap (n - IntKind.i64.wrap (roundV n d mode * d))) = IntKind.i64.wrap ((0 : Int) - d)) = true) → ((decide ((0 : Int) < n) = true) ∧ (True))) ∧ ((decide (IntKind.i64.wrap ((2 : Int) * IntKind.i64.wrap (n - IntKind.i64.wrap (roundV n d mode * d))) = IntKind.i64.wrap ((0 : Int) - d)) = false) → ((true = false) ∧ (True))))))))) ∧ ((decide (IntKind.i64.wrap ((2 : Int) * IntKind.i64.wrap (n - IntKind.i64.wrap (roundV n d mode * d))) < d) = false) → (((decide (IntKind.i64.wrap ((2 : Int) * IntKind.i64.wrap (n - IntKind.i64.wrap (roundV n d mode * d))) = d) = true) → (((decide (n < (0 : Int)) = true) → ((true = true) ∧ (True))) ∧ ((decide (n < (0 : Int)) = false) → (((decide (IntKind.i64.wrap ((2 : Int) * IntKind.i64.wrap (n - IntKind.i64.wrap (roundV n d mode * d))) = IntKind.i64.wrap ((0 : Int) - d)) = true) → ((decide ((0 : Int) < n) = true) ∧ (True))) ∧ ((decide (IntKind.i64.wrap ((2 : Int) * IntKind.i64.wrap (n - IntKind.i64.wrap (roundV n d mode * d))) = IntKind.i64.wrap ((0 : Int) - d)) = false) → ((true = false) ∧ (True))))))) ∧ ((decide (IntKind.i64.wrap ((2 : Int) * IntKind.i64.wrap (n - IntKind.i64.wrap (roundV n d mode * d))) = d) = false) → (((decide (IntKind.i64.wrap ((2 : Int) * IntKind.i64.wrap (n - IntKind.i64.wrap (roundV n d mode * d))) = IntKind.i64.wrap ((0 : Int) - d)) = true) → ((decide ((0 : Int) < n) = true) ∧ (True))) ∧ ((decide (IntKind.i64.wrap ((2 : Int) * IntKind.i64.wrap (n - IntKind.i64.wrap (roundV n d mode * d))) = IntKind.i64.wrap ((0 : Int) - d)) = false) → ((true = false) ∧ (True))))))))) ∧ ((decide (mode = (4 : Int)) = false) → (((decide (mode = (6 : Int)) = true) → (((decide (IntKind.i64.wrap ((2 : Int) * IntKind.i64.wrap (n - IntKind.i64.wrap (roundV n d mode * d))) < d) = true) → (((decide (IntKind.i64.wrap ((0 : Int) - d) < IntKind.i64.wrap ((2 : Int) * IntKind.i64.wrap (n - IntKind.i64.wrap (roundV n d mode * d)))) = true) → ((true = true) ∧ (True))) ∧ ((decide (IntKind.i64.wrap ((0 : Int) - d) < IntKind.i64.wrap ((2 : Int) * IntKind.i64.wrap (n - IntKind.i64.wrap (roundV n d mode * d)))) = false) → (((decide (IntKind.i64.wrap ((2 : Int) * IntKind.i64.wrap (n - IntKind.i64.wrap (roundV n d mode * d))) = d) = true) → (((decide ((0 : Int) < n) = true) → ((true = true) ∧ (True))) ∧ ((decide ((0 : Int) < n) = false) → (((decide (IntKind.i64.wrap ((2 : Int) * IntKind.i64.wrap (n - IntKind.i64.wrap (roundV n d mode * d))) = IntKind.i64.wrap ((0 : Int) - d)) = true) → ((decide (n < (0 : Int)) = true) ∧ (True))) ∧ ((decide (IntKind.i64.wrap ((2 : Int) * IntKind.i64.wrap (n - IntKind.i64.wrap (roundV n d mode * d))) = IntKind.i64.wrap ((0 : Int) - d)) = false) → ((true = false) ∧ (True))))))) ∧ ((decide (IntKind.i64.wrap ((2 : Int) * IntKind.i64.wrap (n - IntKind.i64.wrap (roundV n d mode * d))) = d) = false) → (((decide (IntKind.i64.wrap ((2 : Int) * IntKind.i64.wrap (n - IntKind.i64.wrap (roundV n d mode * d))) = IntKind.i64.wrap ((0 : Int) - d)) = true) → ((decide (n < (0 : Int)) = true) ∧ (True))) ∧ ((decide (IntKind.i64.wrap ((2 : Int) * IntKind.i64.wrap (n - IntKind.i64.wrap (roundV n d mode * d))) = IntKind.i64.wrap ((0 : Int) - d)) = false) → ((true = false) ∧ (True))))))))) ∧ ((decide (IntKind.i64.wrap ((2 : Int) * IntKind.i64.wrap (n - IntKind.i64.wrap (roundV n d mode * d))) < d) = false) → (((decide (IntKind.i64.wrap ((2 : Int) * IntKind.i64.wrap (n - IntKind.i64.wrap (roundV n d mode * d))) = d) = true) → (((decide ((0 : Int) < n) = true) → ((true = true) ∧ (True))) ∧ ((decide ((0 : Int) < n) = false) → (((decide (IntKind.i64.wrap ((2 : Int) * IntKind.i64.wrap (n - IntKind.i64.wrap (roundV n d mode * d))) = IntKind.i64.wrap ((0 : Int) - d)) = true) → ((decide (n < (0 : Int)) = true) ∧ (True))) ∧ ((decide (IntKind.i64.wrap ((2 : Int) * IntKind.i64.wrap (n - IntKind.i64.wrap (roundV n d mode * d))) = IntKind.i64.wrap ((0 : Int) - d)) = false) → ((true = false) ∧ (True))))))) ∧ ((decide (IntKind.i64.wrap ((2 : Int) * IntKind.i64.wrap (n - IntKind.i64.wrap (roundV n d mode * d))) = d) = false) → (((decide (IntKind.i64.wrap ((2 : Int) * IntKind.i64.wrap (n - IntKind.i64.wrap (roundV n d mode * d))) = IntKind.i64.wrap ((0 : Int) - d)) = true) → ((decide (n < (0 : Int)) = true) ∧ (True))) ∧ ((decide (IntKind.i64.wrap ((2 : Int) * IntKind.i64.wrap (n - IntKind.i64.wrap (roundV n d mode * d))) = IntKind.i64.wrap ((0 : Int) - d)) = false) → ((true = false) ∧ (True))))))))) ∧ ((decide (mode = (6 : Int)) = false) → (((decide (IntKind.i64.wrap ((2 : Int) * IntKind.i64.wrap (n - IntKind.i64.wrap (roundV n d mode * d))) < d) = true) → (((decide (IntKind.i64.wrap ((0 : Int) - d) < IntKind.i64.wrap ((2 : Int) * IntKind.i64.wrap (n - IntKind.i64.wrap (roundV n d mode * d)))) = true) → ((true = true) ∧ (True))) ∧ ((decide (IntKind.i64.wrap ((0 : Int) - d) < IntKind.i64.wrap ((2 : Int) * IntKind.i64.wrap (n - IntKind.i64.wrap (roundV n d mode * d)))) = false) → (((decide (IntKind.i64.wrap ((2 : Int) * IntKind.i64.wrap (n - IntKind.i64.wrap (roundV n d mode * d))) = d) = true) → (Ob (((2 : Int) ≠ (0 : Int))) ∧ ((decide ((roundV n d mode).tmod (2 : Int) = (0 : Int)) = true) ∧ (True)))) ∧ ((decide (IntKind.i64.wrap ((2 : Int) * IntKind.i64.wrap (n - IntKind.i64.wrap (roundV n d mode * d))) = d) = false) → (((decide (IntKind.i64.wrap ((2 : Int) * IntKind.i64.wrap (n - IntKind.i64.wrap (roundV n d mode * d))) = IntKind.i64.wrap ((0 : Int) - d)) = true) → (Ob (((2 : Int) ≠ (0 : Int))) ∧ ((decide ((roundV n d mode).tmod (2 : Int) = (0 : Int)) = true) ∧ (True)))) ∧ ((decide (IntKind.i64.wrap ((2 : Int) * IntKind.i64.wrap (n - IntKind.i64.wrap (roundV n d mode * d))) = IntKind.i64.wrap ((0 : Int) - d)) = false) → ((true = false) ∧ (True))))))))) ∧ ((decide (IntKind.i64.wrap ((2 : Int) * IntKind.i64.wrap (n - IntKind.i64.wrap (roundV n d mode * d))) < d) = false) → (((decide (IntKind.i64.wrap ((2 : Int) * IntKind.i64.wrap (n - IntKind.i64.wrap (roundV n d mode * d))) = d) = true) → (Ob (((2 : Int) ≠ (0 : Int))) ∧ ((decide ((roundV n d mode).tmod (2 : Int) = (0 : Int)) = true) ∧ (True)))) ∧ ((decide (IntKind.i64.wrap ((2 : Int) * IntKind.i64.wrap (n - IntKind.i64.wrap (roundV n d mode * d))) = d) = false) → (((decide (IntKind.i64.wrap ((2 : Int) * IntKind.i64.wrap (n - IntKind.i64.wrap (roundV n d mode * d))) = IntKind.i64.wrap ((0 : Int) - d)) = true) → (Ob (((2 : Int) ≠ (0 : Int))) ∧ ((decide ((roundV n d mode).tmod (2 : Int) = (0 : Int)) = true) ∧ (True)))) ∧ ((decide (IntKind.i64.wrap ((2 : Int) * IntKind.i64.wrap (n - IntKind.i64.wrap (roundV n d mode * d))) = IntKind.i64.wrap ((0 : Int) - d)) = false) → ((true = false) ∧ (True)))))))))))))))))))))) ∧ ((decide (IntKind.i64.wrap (n - IntKind.i64.wrap (roundV n d mode * d)) = (0 : Int)) = false) → (((decide (mode = (1 : Int)) = true) → ((decide ((0 : Int) ≤ IntKind.i64.wrap (n - IntKind.i64.wrap (roundV n d mode * d))) = true) ∧ (True))) ∧ ((decide (mode = (1 : Int)) = false) → (((decide (mode = (2 : Int)) = true) → ((decide (IntKind.i64.wrap (n - IntKind.i64.wrap (roundV n d mode * d)) ≤ (0 : Int)) = true) ∧ (True))) ∧ ((decide (mode = (2 : Int)) = false) → (((decide (mode = (3 : Int)) = true) → (((decide (IntKind.i64.wrap (n - IntKind.i64.wrap (roundV n d mode * d)) = (0 : Int)) = true) → ((true = true) ∧ (True))) ∧ ((decide (IntKind.i64.wrap (n - IntKind.i64.wrap (roundV n d mode * d)) = (0 : Int)) = false) → (((decide ((0 : Int) < IntKind.i64.wrap (n - IntKind.i64.wrap (roundV n d mode * d))) == decide ((0 : Int) < n)) = true) ∧ (True))))) ∧ ((decide (mode = (3 : Int)) = false) → (((decide (mode = (4 : Int)) = true) → (((decide (IntKind.i64.wrap ((2 : Int) * IntKind.i64.wrap (n - IntKind.i64.wrap (roundV n d mode * d))) < d) = true) → (((decide (IntKind.i64.wrap ((0 : Int) - d) < IntKind.i64.wrap ((2 : Int) * IntKind.i64.wrap (n - IntKind.i64.wrap (roundV n d mode * d)))) = true) → ((true = true) ∧ (True))) ∧ ((decide (IntKind.i64.wrap ((0 : Int) - d) < IntKind.i64.wrap ((2 : Int) * IntKind.i64.wrap (n - IntKind.i64.wrap (roundV n d mode * d)))) = false) → (((decide (IntKind.i64.wrap ((2 : Int) * IntKind.i64.wrap (n - IntKind.i64.wrap (roundV n d mode * d))) = d) = true) → (((decide (n < (0 : Int)) = true) → ((true = true) ∧ (True))) ∧ ((decide (n < (0 : Int)) = false) → (((decide (IntKind.i64.wrap ((2 : Int) * IntKind.i64.wrap (n - IntKind.i64.wrap (roundV n d mode * d))) = IntKind.i64.wrap ((0 : Int) - d)) = true) → ((decide ((0 : Int) < n) = true) ∧ (True))) ∧ ((decide (IntKind.i64.wrap ((2 : Int) * IntKind.i64.wrap (n - IntKind.i64.wrap (roundV n d mode * d))) = IntKind.i64.wrap ((0 : Int) - d)) = false) → ((true = false) ∧ (True))))))) ∧ ((decide (IntKind.i64.wrap ((2 : Int) * IntKind.i64.wrap (n - IntKind.i64.wrap (roundV n d mode * d))) = d) = false) → (((decide (IntKind.i64.wrap ((2 : Int) * IntKind.i64.wrap (n - IntKind.i64.wrap (roundV n d mode * d))) = IntKind.i64.wrap ((0 : Int) - d)) = true) → ((decide ((0 : Int) < n) = true) ∧ (True))) ∧ ((decide (IntKind.i64.wrap ((2 : Int) * IntKind.i64.wrap (n - IntKind.i64.wrap (roundV n d mode * d))) = IntKind.i64.wrap ((0 : Int) - d)) = false) → ((true = false) ∧ (True))))))))) ∧ ((decide (IntKind.i64.wrap ((2 : Int) * IntKind.i64.wrap (n - IntKind.i64.wrap (roundV n d mode * d))) < d) = false) → (((decide (IntKind.i64.wrap ((2 : Int) * IntKind.i64.wrap (n - IntKind.i64.wrap (roundV n d mode * d))) = d) = true) → (((decide (n < (0 : Int)) = true) → ((true = true) ∧ (True))) ∧ ((decide (n < (0 : Int)) = false) → (((decide (IntKind.i64.wrap ((2 : Int) * IntKind.i64.wrap (n - IntKind.i64.wrap (roundV n d mode * d))) = IntKind.i64.wrap ((0 : Int) - d)) = true) → ((decide ((0 : Int) < n) = true) ∧ (True))) ∧ ((decide (IntKind.i64.wrap ((2 : Int) * IntKind.i64.wrap (n - IntKind.i64.wrap (roundV n d mode * d))) = IntKind.i64.wrap ((0 : Int) - d)) = false) → ((true = false) ∧ (True))))))) ∧ ((decide (IntKind.i64.wrap ((2 : Int) * IntKind.i64.wrap (n - IntKind.i64.wrap (roundV n d mode * d))) = d) = false) → (((decide (IntKind.i64.wrap ((2 : Int) * IntKind.i64.wrap (n - IntKind.i64.wrap (roundV n d mode * d))) = IntKind.i64.wrap ((0 : Int) - d)) = true) → ((decide ((0 : Int) < n) = true) ∧ (True))) ∧ ((decide (IntKind.i64.wrap ((2 : Int) * IntKind.i64.wrap (n - IntKind.i64.wrap (roundV n d mode * d))) = IntKind.i64.wrap ((0 : Int) - d)) = false) → ((true = false) ∧ (True))))))))) ∧ ((decide (mode = (4 : Int)) = false) → (((decide (mode = (6 : Int)) = true) → (((decide (IntKind.i64.wrap ((2 : Int) * IntKind.i64.wrap (n - IntKind.i64.wrap (roundV n d mode * d))) < d) = true) → (((decide (IntKind.i64.wrap ((0 : Int) - d) < IntKind.i64.wrap ((2 : Int) * IntKind.i64.wrap (n - IntKind.i64.wrap (roundV n d mode * d)))) = true) → ((true = true) ∧ (True))) ∧ ((decide (IntKind.i64.wrap ((0 : Int) - d) < IntKind.i64.wrap ((2 : Int) * IntKind.i64.wrap (n - IntKind.i64.wrap (roundV n d mode * d)))) = false) → (((decide (IntKind.i64.wrap ((2 : Int) * IntKind.i64.wrap (n - IntKind.i64.wrap (roundV n d mode * d))) = d) = true) → (((decide ((0 : Int) < n) = true) → ((true = true) ∧ (True))) ∧ ((decide ((0 : Int) < n) = false) → (((decide (IntKind.i64.wrap ((2 : Int) * IntKind.i64.wrap (n - IntKind.i64.wrap (roundV n d mode * d))) = IntKind.i64.wrap ((0 : Int) - d)) = true) → ((decide (n < (0 : Int)) = true) ∧ (True))) ∧ ((decide (IntKind.i64.wrap ((2 : Int) * IntKind.i64.wrap (n - IntKind.i64.wrap (roundV n d mode * d))) = IntKind.i64.wrap ((0 : Int) - d)) = false) → ((true = false) ∧ (True))))))) ∧ ((decide (IntKind.i64.wrap ((2 : Int) * IntKind.i64.wrap (n - IntKind.i64.wrap (roundV n d mode * d))) = d) = false) → (((decide (IntKind.i64.wrap ((2 : Int) * IntKind.i64.wrap (n - IntKind.i64.wrap (roundV n d mode * d))) = IntKind.i64.wrap ((0 : Int) - d)) = true) → ((decide (n < (0 : Int)) = true) ∧ (True))) ∧ ((decide (IntKind.i64.wrap ((2 : Int) * IntKind.i64.wrap (n - IntKind.i64.wrap (roundV n d mode * d))) = IntKind.i64.wrap ((0 : Int) - d)) = false) → ((true = false) ∧ (True))))))))) ∧ ((decide (IntKind.i64.wrap ((2 : Int) * IntKind.i64.wrap (n - IntKind.i64.wrap (roundV n d mode * d))) < d) = false) → (((decide (IntKind.i64.wrap ((2 : Int) * IntKind.i64.wrap (n - IntKind.i64.wrap (roundV n d mode * d))) = d) = true) → (((decide ((0 : Int) < n) = true) → ((true = true) ∧ (True))) ∧ ((decide ((0 : Int) < n) = false) → (((decide (IntKind.i64.wrap ((2 : Int) * IntKind.i64.wrap (n - IntKind.i64.wrap (roundV n d mode * d))) = IntKind.i64.wrap ((0 : Int) - d)) = true) → ((decide (n < (0 : Int)) = true) ∧ (True))) ∧ ((decide (IntKind.i64.wrap ((2 : Int) * IntKind.i64.wrap (n - IntKind.i64.wrap (roundV n d mode * d))) = IntKind.i64.wrap ((0 : Int) - d)) = false) → ((true = false) ∧ (True))))))) ∧ ((decide (IntKind.i64.wrap ((2 : Int) * IntKind.i64.wrap (n - IntKind.i64.wrap (roundV n d mode * d))) = d) = false) → (((decide (IntKind.i64.wrap ((2 : Int) * IntKind.i64.wrap (n - IntKind.i64.wrap (roundV n d mode * d))) = IntKind.i64.wrap ((0 : Int) - d)) = true) → ((decide (n < (0 : Int)) = true) ∧ (True))) ∧ ((decide (IntKind.i64.wrap ((2 : Int) * IntKind.i64.wrap (n - IntKind.i64.wrap (roundV n d mode * d))) = IntKind.i64.wrap ((0 : Int) - d)) = false) → ((true = false) ∧ (True))))))))) ∧ ((decide (mode = (6 : Int)) = false) → (((decide (IntKind.i64.wrap ((2 : Int) * IntKind.i64.wrap (n - IntKind.i64.wrap (roundV n d mode * d))) < d) = true) → (((decide (IntKind.i64.wrap ((0 : Int) - d) < IntKind.i64.wrap ((2 : Int) * IntKind.i64.wrap (n - IntKind.i64.wrap (roundV n d mode * d)))) = true) → ((true = true) ∧ (True))) ∧ ((decide (IntKind.i64.wrap ((0 : Int) - d) < IntKind.i64.wrap ((2 : Int) * IntKind.i64.wrap (n - IntKind.i64.wrap (roundV n d mode * d)))) = false) → (((decide (IntKind.i64.wrap ((2 : Int) * IntKind.i64.wrap (n - IntKind.i64.wrap (roundV n d mode * d))) = d) = true) → (Ob (((2 : Int) ≠ (0 : Int))) ∧ ((decide ((roundV n d mode).tmod (2 : Int) = (0 : Int)) = true) ∧ (True)))) ∧ ((decide (IntKind.i64.wrap ((2 : Int) * IntKind.i64.wrap (n - IntKind.i64.wrap (roundV n d mode * d))) = d) = false) → (((decide (IntKind.i64.wrap ((2 : Int) * IntKind.i64.wrap (n - IntKind.i64.wrap (roundV n d mode * d))) = IntKind.i64.wrap ((0 : Int) - d)) = true) → (Ob (((2 : Int) ≠ (0 : Int))) ∧ ((decide ((roundV n d mode).tmod (2 : Int) = (0 : Int)) = true) ∧ (True)))) ∧ ((decide (IntKind.i64.wrap ((2 : Int) * IntKind.i64.wrap (n - IntKind.i64.wrap (roundV n d mode * d))) = IntKind.i64.wrap ((0 : Int) - d)) = false) → ((true = false) ∧ (True))))))))) ∧ ((decide (IntKind.i64.wrap ((2 : Int) * IntKind.i64.wrap (n - IntKind.i64.wrap (roundV n d mode * d))) < d) = false) → (((decide (IntKind.i64.wrap ((2 : Int) * IntKind.i64.wrap (n - IntKind.i64.wrap (roundV n d mode * d))) = d) = true) → (Ob (((2 : Int) ≠ (0 : Int))) ∧ ((decide ((roundV n d mode).tmod (2 : Int) = (0 : Int)) = true) ∧ (True)))) ∧ ((decide (IntKind.i64.wrap ((2 : Int) * IntKind.i64.wrap (n - IntKind.i64.wrap (roundV n d mode * d))) = d) = false) → (((decide (IntKind.i64.wrap ((2 : Int) * IntKind.i64.wrap (n - IntKind.i64.wrap (roundV n d mode * d))) = IntKind.i64.wrap ((0 : Int) - d)) = true) → (Ob (((2 : Int) ≠ (0 : Int))) ∧ ((decide ((roundV n d mode).tmod (2 : Int) = (0 : Int)) = true) ∧ (True)))) ∧ ((decide (IntKind.i64.wrap ((2 : Int) * IntKind.i64.wrap (n - IntKind.i64.wrap (roundV n d mode * d))) = IntKind.i64.wrap ((0 : Int) - d)) = false) → ((true = false) ∧ (True)))))))))))))))))))))))))))))))))))))))) := by kernel_rfl
def sh_fmodes : List SV → Option (Int × Int)
  | [.int .i64 n, .int .i64 d] => some (n, d)
  | _ => none
def em_fmodes : Int × Int → List SV := fun (n, d) => [.int .i64 n, .int .i64 d]
theorem sh_fmodes_le : ∀ us a, sh_fmodes us = some a → leL us (em_fmodes a) := by
  intro us a h
  unfold sh_fmodes at h
  split at h
  · cases h; exact (.cons (.refl _) (.cons (.refl _) .nil))
  · cases h
def fmodesC : Con := conOf sh_fmodes (fun (n, d) => some (Ob (in64 n ∧ in64 d))) (fun (n, d) => .bool true)
set_option maxRecDepth 100000 in
theorem vc_fmodes (n : Int) (d : Int) : (wpF ⟨94, tyT, [(9, partsC), (10, roundC)], false⟩ ((fmodes_an n d)) [] Try.f4 (em_fmodes (n, d)) (.bool true)) = (((((!true) = true) → ((true = false) ∧ (True))) ∧ (((!true) = false) → (((decide (d ≤ (0 : Int)) = true) → ((true = true) ∧ (True))) ∧ ((decide (d ≤ (0 : Int)) = false) → (((decide (n = (-9223372036854775808 : Int)) = true) → ((true = true) ∧ (True))) ∧ ((decide (n = (-9223372036854775808 : Int)) = false) → (Ob (((in64 n) ∧ (in64 d))) ∧ (Ob (((in64 n) ∧ (in64 d))) ∧ (Ob (((in64 (IntKind.i64.wrap ((0 : Int) - n))) ∧ (in64 d))) ∧ ((∃ (x1 : Int), ((n = n) ∧ ((d = d) ∧ ((roundV n d (1 : Int) = roundS n d (1 : Int)) ∧ ((roundV n d (2 : Int) = roundS n d (2 : Int)) ∧ ((roundV (IntKind.i64.wrap ((0 : Int) - n)) d (1 : Int) = roundS (-n) d (1 : Int)) ∧ (((1 : Int) = x1) ∧ ((((1 : Int) ≤ x1) ∧ ((x1 ≤ (7 : Int)) ∧ (((0 : Int) < d) ∧ ((in64 n) ∧ ((in64 d) ∧ (in64 (-n))))))) ∧ ((True) ∧ (True)))))))))) ∧ ∀ (x2 : Int), ((((1 : Int) ≤ x2) ∧ ((x2 ≤ (7 : Int)) ∧ (((0 : Int) < d) ∧ ((in64 n) ∧ ((in64 d) ∧ (in64 (-n))))))) → (((decide (x2 ≤ (6 : Int)) = true) → (Ob (((in64 n) ∧ (in64 d))) ∧ ((((!decide (rngE (roundB d x2) = (0 : Int))) = true) → ((true = false) ∧ (True))) ∧ (((!decide (rngE (roundB d x2) = (0 : Int))) = false) → ((((!decide (roundV n d x2 = roundS n d (1 : Int))) = true) → ((((!decide (roundV n d x2 = roundS n d (2 : Int))) = true) → ((true = false) ∧ (True))) ∧ (((!decide (roundV n d x2 = roundS n d (2 : Int))) = false) → (∃ (x3 : Int), ((n = n) ∧ ((d = d) ∧ ((roundS n d (1 : Int) = roundS n d (1 : Int)) ∧ ((roundS n d (2 : Int) = roundS n d (2 : Int)) ∧ ((roundS (-n) d (1 : Int) = roundS (-n) d (1 : Int)) ∧ ((IntKind.i64.wrap (x2 + (1 : Int)) = x3) ∧ ((((1 : Int) ≤ x3) ∧ ((x3 ≤ (7 : Int)) ∧ (((0 : Int) < d) ∧ ((in64 n) ∧ ((in64 d) ∧ (in64 (-n))))))) ∧ ((((7 : Int) - x3).toNat < ((7 : Int) - x2).toNat) ∧ (True))))))))))))) ∧ (((!decide (roundV n d x2 = roundS n d (1 : Int))) = false) → (∃ (x4 : Int), ((n = n) ∧ ((d = d) ∧ ((roundS n d (1 : Int) = roundS n d (1 : Int)) ∧ ((roundS n d (2 : Int) = roundS n d (2 : Int)) ∧ ((roundS (-n) d (1 : Int) = roundS (-n) d (1 : Int)) ∧ ((IntKind.i64.wrap (x2 + (1 : Int)) = x4) ∧ ((((1 : Int) ≤ x4) ∧ ((x4 ≤ (7 : Int)) ∧ (((0 : Int) < d) ∧ ((in64 n) ∧ ((in64 d) ∧ (in64 (-n))))))) ∧ ((((7 : Int) - x4).toNat < ((7 : Int) - x2).toNat) ∧ (True)))))))))))))))) ∧ ((decide (x2 ≤ (6 : Int)) = false) → (((decide (roundS (-n) d (1 : Int) = IntKind.i64.wrap ((0 : Int) - roundS n d (2 : Int))) = true) → (Ob ((d ≠ (0 : Int))) ∧ ((((decide (n.tmod d = (0 : Int)) == decide (roundS n d (1 : Int) = roundS n d (2 : Int))) = true) → (((decide (roundS n d (1 : Int) = roundS n d (2 : Int)) = true) → ((true = true) ∧ (True))) ∧ ((decide (roundS n d (1 : Int) = roundS n d (2 : Int)) = false) → (((decide (roundS n d (1 : Int) < roundS n d (2 : Int)) = true) → ((decide (IntKind.i64.wrap (roundS n d (2 : Int) - roundS n d (1 : Int)) = (1 : Int)) = true) ∧ (True))) ∧ ((decide (roundS n d (1 : Int) < roundS n d (2 : Int)) = false) → ((true = false) ∧ (True))))))) ∧ (((decide (n.tmod d = (0 : Int)) == decide (roundS n d (1 : Int) = roundS n d (2 : Int))) = false) → ((true = false) ∧ (True)))))) ∧ ((decide (roundS (-n) d (1 : Int) = IntKind.i64.wrap ((0 : Int) - roundS n d (2 : Int))) = false) → ((true = false) ∧ (True)))))))))))))))))) := by kernel_rfl
def sh_fparts : List SV → Option (Int × Int × Int)
  | [.int .i64 x, .int .i64 rate, .int .i64 mode] => some (x, rate, mode)
  | _ => none
def em_fparts : Int × Int × Int → List SV := fun (x, rate, mode) => [.int .i64 x, .int .i64 rate, .int .i64 mode]
theorem sh_fparts_le : ∀ us a, sh_fparts us = some a → leL us (em_fparts a) := by
  intro us a h
  unfold sh_fparts at h
  split at h
  · cases h; exact (.cons (.refl _) (.cons (.refl _) (.cons (.refl _) .nil)))
  · cases h
def fpartsC : Con := conOf sh_fparts (fun (x, rate, mode) => some (Ob (in64 x ∧ in64 rate ∧ in64 mode))) (fun (x, rate, mode) => .bool true)
set_option maxRecDepth 100000 in
theorem vc_fparts (x : Int) (rate : Int) (mode : Int) : (wpF ⟨148, tyT, [(9, partsC), (17, partC), (18, takeC), (19, fofC), (15, eaddC), (20, exactC)], false⟩ (noAnn) [] Try.f8 (em_fparts (x, rate, mode)) (.bool true)) = (((((!true) = true) → ((true = false) ∧ (True))) ∧ (((!true) = false) → (((decide ((-100000000000 : Int) ≤ x) = true) → ((((!decide (x ≤ (100000000000 : Int))) = true) → (((decide (partE x rate = (10 : Int)) = true) → (((decide (takeE x rate mode = (10 : Int)) = true) → (((decide (partV x rate = (0 : Int)) = true) → ((decide (takeV x rate mode = (0 : Int)) = true) ∧ (True))) ∧ ((decide (partV x rate = (0 : Int)) = false) → ((true = false) ∧ (True))))) ∧ ((decide (takeE x rate mode = (10 : Int)) = false) → ((true = false) ∧ (True))))) ∧ ((decide (partE x rate = (10 : Int)) = false) → ((true = false) ∧ (True))))) ∧ (((!decide (x ≤ (100000000000 : Int))) = false) → (((decide (rate < (0 : Int)) = true) → (((decide (partE x rate = (50 : Int)) = true) → (((decide (takeE x rate mode = (50 : Int)) = true) → (((decide (partV x rate = (0 : Int)) = true) → ((decide (takeV x rate mode = (0 : Int)) = true) ∧ (True))) ∧ ((decide (partV x rate = (0 : Int)) = false) → ((true = false) ∧ (True))))) ∧ ((decide (takeE x rate mode = (50 : Int)) = false) → ((true = false) ∧ (True))))) ∧ ((decide (partE x rate = (50 : Int)) = false) → ((true = false) ∧ (True))))) ∧ ((decide (rate < (0 : Int)) = false) → (((decide ((10000 : Int) < rate) = true) → (((decide (partE x rate = (50 : Int)) = true) → (((decide (takeE x rate mode = (50 : Int)) = true) → (((decide (partV x rate = (0 : Int)) = true) → ((decide (takeV x rate mode = (0 : Int)) = true) ∧ (True))) ∧ ((decide (partV x rate = (0 : Int)) = false) → ((true = false) ∧ (True))))) ∧ ((decide (takeE x rate mode = (50 : Int)) = false) → ((true = false) ∧ (True))))) ∧ ((decide (partE x rate = (50 : Int)) = false) → ((true = false) ∧ (True))))) ∧ ((decide ((10000 : Int) < rate) = false) → ((((!decide (partE x rate = (0 : Int))) = true) → ((true = false) ∧ (True))) ∧ (((!decide (partE x rate = (0 : Int))) = false) → ((((!decide (partV x rate = IntKind.i64.wrap (x * rate))) = true) → ((true = false) ∧ (True))) ∧ (((!decide (partV x rate = IntKind.i64.wrap (x * rate))) = false) → (Ob (((2 : Nat) ≤ (9000000000000000000 : Nat))) ∧ ((((!decide (IntKind.i64.wrap (IntKind.i64.wrap (partE x (IntKind.i64.wrap ((10000 : Int) - rate)) + ofE x) + chkE (exOk [SV.int IntKind.i64 (partV x rate), SV.int IntKind.i64 (partV x (IntKind.i64.wrap ((10000 : Int) - rate)))] (2 : Nat))) = (0 : Int))) = true) → ((true = false) ∧ (True))) ∧ (((!decide (IntKind.i64.wrap (IntKind.i64.wrap (partE x (IntKind.i64.wrap ((10000 : Int) - rate)) + ofE x) + chkE (exOk [SV.int IntKind.i64 (partV x rate), SV.int IntKind.i64 (partV x (IntKind.i64.wrap ((10000 : Int) - rate)))] (2 : Nat))) = (0 : Int))) = false) → ((((!decide (eaddV [SV.int IntKind.i64 (partV x rate), SV.int IntKind.i64 (partV x (IntKind.i64.wrap ((10000 : Int) - rate)))] = ofV x)) = true) → ((true = false) ∧ (True))) ∧ (((!decide (eaddV [SV.int IntKind.i64 (partV x rate), SV.int IntKind.i64 (partV x (IntKind.i64.wrap ((10000 : Int) - rate)))] = ofV x)) = false) → ((((!exactB (partV x rate)) = true) → ((true = false) ∧ (True))) ∧ (((!exactB (partV x rate)) = false) → (((decide (mode < (1 : Int)) = true) → (((decide (takeE x rate mode = (1 : Int)) = true) → ((decide (takeV x rate mode = (0 : Int)) = true) ∧ (True))) ∧ ((decide (takeE x rate mode = (1 : Int)) = false) → ((true = false) ∧ (True))))) ∧ ((decide (mode < (1 : Int)) = false) → (((decide ((6 : Int) < mode) = true) → (((decide (takeE x rate mode = (1 : Int)) = true) → ((decide (takeV x rate mode = (0 : Int)) = true) ∧ (True))) ∧ ((decide (takeE x rate mode = (1 : Int)) = false) → ((true = false) ∧ (True))))) ∧ ((decide ((6 : Int) < mode) = false) → (((decide (takeE x rate mode = (0 : Int)) = true) → (((decide ((-10000 : Int) < IntKind.i64.wrap (partV x rate - IntKind.i64.wrap ((10000 : Int) * takeV x rate mode))) = true) → ((decide (IntKind.i64.wrap (partV x rate - IntKind.i64.wrap ((10000 : Int) * takeV x rate mode)) < (10000 : Int)) = true) ∧ (True))) ∧ ((decide ((-10000 : Int) < IntKind.i64.wrap (partV x rate - IntKind.i64.wrap ((10000 : Int) * takeV x rate mode))) = false) → ((true = false) ∧ (True))))) ∧ ((decide (takeE x rate mode = (0 : Int)) = false) → ((true = false) ∧ (True)))))))))))))))))))))))))) ∧ ((decide ((-100000000000 : Int) ≤ x) = false) → (((decide (partE x rate = (10 : Int)) = true) → (((decide (takeE x rate mode = (10 : Int)) = true) → (((decide (partV x rate = (0 : Int)) = true) → ((decide (takeV x rate mode = (0 : Int)) = true) ∧ (True))) ∧ ((decide (partV x rate = (0 : Int)) = false) → ((true = false) ∧ (True))))) ∧ ((decide (takeE x rate mode = (10 : Int)) = false) → ((true = false) ∧ (True))))) ∧ ((decide (partE x rate = (10 : Int)) = false) → ((true = false) ∧ (True))))))))) := by kernel_rfl
def sh_fscales : List SV → Option (Int × Int × Int)
  | [.int .i64 x, .int .i64 n, .int .i64 d] => some (x, n, d)
  | _ => none
def em_fscales : Int × Int × Int → List SV := fun (x, n, d) => [.int .i64 x, .int .i64 n, .int .i64 d]
theorem sh_fscales_le : ∀ us a, sh_fscales us = some a → leL us (em_fscales a) := by
  intro us a h
  unfold sh_fscales at h
  split at h
  · cases h; exact (.cons (.refl _) (.cons (.refl _) (.cons (.refl _) .nil)))
  · cases h
def fscalesC : Con := conOf sh_fscales (fun (x, n, d) => some (Ob (in64 x ∧ in64 n ∧ in64 d))) (fun (x, n, d) => .bool true)
set_option maxRecDepth 100000 in
theorem vc_fscales (x : Int) (n : Int) (d : Int) : (wpF ⟨99, tyT, [(9, partsC), (12, scaleC), (10, roundC)], false⟩ (noAnn) [] Try.f5 (em_fscales (x, n, d)) (.bool true)) = (((((!true) = true) → ((true = false) ∧ (True))) ∧ (((!true) = false) → (Ob (((in64 n) ∧ (in64 d))) ∧ (((decide ((100000000000 : Int) < x) = true) → (((decide (scaleE x n d = (10 : Int)) = true) → ((decide (scaleV x n d = (0 : Int)) = true) ∧ (True))) ∧ ((decide (scaleE x n d = (10 : Int)) = false) → ((true = false) ∧ (True))))) ∧ ((decide ((100000000000 : Int) < x) = false) → (((decide (x < (-100000000000 : Int)) = true) → (((decide (scaleE x n d = (10 : Int)) = true) → ((decide (scaleV x n d = (0 : Int)) = true) ∧ (True))) ∧ ((decide (scaleE x n d = (10 : Int)) = false) → ((true = false) ∧ (True))))) ∧ ((decide (x < (-100000000000 : Int)) = false) → (((decide (n < (0 : Int)) = true) → (((decide (scaleE x n d = (1 : Int)) = true) → ((decide (scaleV x n d = (0 : Int)) = true) ∧ (True))) ∧ ((decide (scaleE x n d = (1 : Int)) = false) → ((true = false) ∧ (True))))) ∧ ((decide (n < (0 : Int)) = false) → (((decide ((1048576 : Int) < n) = true) → (((decide (scaleE x n d = (1 : Int)) = true) → ((decide (scaleV x n d = (0 : Int)) = true) ∧ (True))) ∧ ((decide (scaleE x n d = (1 : Int)) = false) → ((true = false) ∧ (True))))) ∧ ((decide ((1048576 : Int) < n) = false) → (((decide (d < (1 : Int)) = true) → (((decide (scaleE x n d = (1 : Int)) = true) → ((decide (scaleV x n d = (0 : Int)) = true) ∧ (True))) ∧ ((decide (scaleE x n d = (1 : Int)) = false) → ((true = false) ∧ (True))))) ∧ ((decide (d < (1 : Int)) = false) → (((decide ((1048576 : Int) < d) = true) → (((decide (scaleE x n d = (1 : Int)) = true) → ((decide (scaleV x n d = (0 : Int)) = true) ∧ (True))) ∧ ((decide (scaleE x n d = (1 : Int)) = false) → ((true = false) ∧ (True))))) ∧ ((decide ((1048576 : Int) < d) = false) → (Ob (((in64 (IntKind.i64.wrap (x * n))) ∧ (in64 d))) ∧ (((decide ((100000000000 : Int) < roundV (IntKind.i64.wrap (x * n)) d (1 : Int)) = true) → (((decide (scaleE x n d = (10 : Int)) = true) → ((decide (scaleV x n d = (0 : Int)) = true) ∧ (True))) ∧ ((decide (scaleE x n d = (10 : Int)) = false) → ((true = false) ∧ (True))))) ∧ ((decide ((100000000000 : Int) < roundV (IntKind.i64.wrap (x * n)) d (1 : Int)) = false) → (((decide (roundV (IntKind.i64.wrap (x * n)) d (1 : Int) < (-100000000000 : Int)) = true) → (((decide (scaleE x n d = (10 : Int)) = true) → ((decide (scaleV x n d = (0 : Int)) = true) ∧ (True))) ∧ ((decide (scaleE x n d = (10 : Int)) = false) → ((true = false) ∧ (True))))) ∧ ((decide (roundV (IntKind.i64.wrap (x * n)) d (1 : Int) < (-100000000000 : Int)) = false) → (((decide (scaleE x n d = (0 : Int)) = true) → (((decide (scaleV x n d = roundV (IntKind.i64.wrap (x * n)) d (1 : Int)) = true) → (((decide (IntKind.i64.wrap (scaleV x n d * d) ≤ IntKind.i64.wrap (x * n)) = true) → ((decide (IntKind.i64.wrap (IntKind.i64.wrap (x * n) - IntKind.i64.wrap (scaleV x n d * d)) < d) = true) ∧ (True))) ∧ ((decide (IntKind.i64.wrap (scaleV x n d * d) ≤ IntKind.i64.wrap (x * n)) = false) → ((true = false) ∧ (True))))) ∧ ((decide (scaleV x n d = roundV (IntKind.i64.wrap (x * n)) d (1 : Int)) = false) → ((true = false) ∧ (True))))) ∧ ((decide (scaleE x n d = (0 : Int)) = false) → ((true = false) ∧ (True))))))))))))))))))))))))) := by kernel_rfl
def sh_fcompares : List SV → Option (Int × Int × Int × Int × Int × Int)
  | [.agg [.int .i64 a, .int .i64 a1], .agg [.int .i64 b, .int .i64 b1], .agg [.int .i64 c, .int .i64 c1]] => some (a, a1, b, b1, c, c1)
  | _ => none
def em_fcompares : Int × Int × Int × Int × Int × Int → List SV := fun (a, a1, b, b1, c, c1) => [.agg [.int .i64 a, .int .i64 a1], .agg [.int .i64 b, .int .i64 b1], .agg [.int .i64 c, .int .i64 c1]]
theorem sh_fcompares_le : ∀ us a, sh_fcompares us = some a → leL us (em_fcompares a) := by
  intro us a h
  unfold sh_fcompares at h
  split at h
  · cases h; exact (.cons (.agg (.cons (.refl _) (.cons (.refl _) .nil))) (.cons (.agg (.cons (.refl _) (.cons (.refl _) .nil))) (.cons (.agg (.cons (.refl _) (.cons (.refl _) .nil))) .nil)))
  · cases h
def fcomparesC : Con := conOf sh_fcompares (fun (a, a1, b, b1, c, c1) => some (Ob (in64 a ∧ in64 a1 ∧ in64 b ∧ in64 b1 ∧ in64 c ∧ in64 c1))) (fun (a, a1, b, b1, c, c1) => .bool true)
set_option maxRecDepth 100000 in
theorem vc_fcompares (a : Int) (a1 : Int) (b : Int) (b1 : Int) (c : Int) (c1 : Int) : (wpF ⟨241, tyT, [(9, partsC), (13, cmpC), (14, lowC), (11, greatC)], true⟩ (noAnn) [] Try.f6 (em_fcompares (a, a1, b, b1, c, c1)) (.bool true)) = (((((!true) = true) → ((true = false) ∧ (True))) ∧ (((!true) = false) → (Ob ((((0 : Int) ≤ (0 : Int)) ∧ ((0 : Int) < (2 : Int)))) ∧ (Ob ((((0 : Int) ≤ (1 : Int)) ∧ ((1 : Int) < (2 : Int)))) ∧ (Ob ((((0 : Int) ≤ (0 : Int)) ∧ ((0 : Int) < (2 : Int)))) ∧ (Ob ((((0 : Int) ≤ (1 : Int)) ∧ ((1 : Int) < (2 : Int)))) ∧ (Ob (((in64 a) ∧ ((in64 a1) ∧ ((in64 b) ∧ (in64 b1))))) ∧ (Ob ((((0 : Int) ≤ (1 : Int)) ∧ ((1 : Int) < (2 : Int)))) ∧ (((decide (a1 ≤ (0 : Int)) = true) → (((decide (rngE (posB a1 b1) = (1 : Int)) = true) → ((decide (cmpV a a1 b b1 = (0 : Int)) = true) ∧ (True))) ∧ ((decide (rngE (posB a1 b1) = (1 : Int)) = false) → ((true = false) ∧ (True))))) ∧ ((decide (a1 ≤ (0 : Int)) = false) → (Ob ((((0 : Int) ≤ (1 : Int)) ∧ ((1 : Int) < (2 : Int)))) ∧ (((decide (b1 ≤ (0 : Int)) = true) → (((decide (rngE (posB a1 b1) = (1 : Int)) = true) → ((decide (cmpV a a1 b b1 = (0 : Int)) = true) ∧ (True))) ∧ ((decide (rngE (posB a1 b1) = (1 : Int)) = false) → ((true = false) ∧ (True))))) ∧ ((decide (b1 ≤ (0 : Int)) = false) → (Ob ((((0 : Int) ≤ (0 : Int)) ∧ ((0 : Int) < (2 : Int)))) ∧ (Ob ((((0 : Int) ≤ (1 : Int)) ∧ ((1 : Int) < (2 : Int)))) ∧ (Ob ((((0 : Int) ≤ (0 : Int)) ∧ ((0 : Int) < (2 : Int)))) ∧ (Ob ((((0 : Int) ≤ (1 : Int)) ∧ ((1 : Int) < (2 : Int)))) ∧ (Ob (((in64 b) ∧ ((in64 b1) ∧ ((in64 a) ∧ (in64 a1))))) ∧ (Ob ((((0 : Int) ≤ (0 : Int)) ∧ ((0 : Int) < (2 : Int)))) ∧ (Ob ((((0 : Int) ≤ (1 : Int)) ∧ ((1 : Int) < (2 : Int)))) ∧ (Ob (((in64 a) ∧ (in64 a1))) ∧ (Ob ((((0 : Int) ≤ (0 : Int)) ∧ ((0 : Int) < (2 : Int)))) ∧ (Ob ((((0 : Int) ≤ (1 : Int)) ∧ ((1 : Int) < (2 : Int)))) ∧ (Ob (((in64 b) ∧ (in64 b1))) ∧ ((((!decide (IntKind.i64.wrap (IntKind.i64.wrap (IntKind.i64.wrap (rngE (posB a1 b1) + rngE (posB b1 a1)) + lowE a1) + lowE b1) = (0 : Int))) = true) → ((true = false) ∧ (True))) ∧ (((!decide (IntKind.i64.wrap (IntKind.i64.wrap (IntKind.i64.wrap (rngE (posB a1 b1) + rngE (posB b1 a1)) + lowE a1) + lowE b1) = (0 : Int))) = false) → ((((!decide (cmpV a a1 b b1 = IntKind.i64.wrap ((0 : Int) - cmpV b b1 a a1))) = true) → ((true = false) ∧ (True))) ∧ (((!decide (cmpV a a1 b b1 = IntKind.i64.wrap ((0 : Int) - cmpV b b1 a a1))) = false) → (((decide (cmpV a a1 b b1 < (-1 : Int)) = true) → ((true = false) ∧ (True))) ∧ ((decide (cmpV a a1 b b1 < (-1 : Int)) = false) → (((decide ((1 : Int) < cmpV a a1 b b1) = true) → ((true = false) ∧ (True))) ∧ ((decide ((1 : Int) < cmpV a a1 b b1) = false) → (((decide (lowD a a1 < (1 : Int)) = true) → ((true = false) ∧ (True))) ∧ ((decide (lowD a a1 < (1 : Int)) = false) → (((decide (lowD b b1 < (1 : Int)) = true) → ((true = false) ∧ (True))) ∧ ((decide (lowD b b1 < (1 : Int)) = false) → (((decide (lowN a a1 = lowN b b1) = true) → ((((!decide (cmpV a a1 b b1 = (0 : Int)) == decide (lowD a a1 = lowD b b1)) = true) → ((true = false) ∧ (True))) ∧ (((!decide (cmpV a a1 b b1 = (0 : Int)) == decide (lowD a a1 = lowD b b1)) = false) → (Ob ((((0 : Int) ≤ (0 : Int)) ∧ ((0 : Int) < (2 : Int)))) ∧ (Ob ((((0 : Int) ≤ (1 : Int)) ∧ ((1 : Int) < (2 : Int)))) ∧ (Ob (((in64 (lowN a a1)) ∧ ((in64 (lowD a a1)) ∧ ((in64 a) ∧ (in64 a1))))) ∧ ((((!decide (cmpV (lowN a a1) (lowD a a1) a a1 = (0 : Int))) = true) → ((true = false) ∧ (True))) ∧ (((!decide (cmpV (lowN a a1) (lowD a a1) a a1 = (0 : Int))) = false) → (Ob ((((0 : Int) ≤ (0 : Int)) ∧ ((0 : Int) < (2 : Int)))) ∧ ((((!greatB a) = true) → (Ob ((((0 : Int) ≤ (0 : Int)) ∧ ((0 : Int) < (2 : Int)))) ∧ ((((!greatB b) = true) → (Ob ((((0 : Int) ≤ (1 : Int)) ∧ ((1 : Int) < (2 : Int)))) ∧ (((decide (a1 < (1048576 : Int)) = true) → (Ob ((((0 : Int) ≤ (1 : Int)) ∧ ((1 : Int) < (2 : Int)))) ∧ (((decide (b1 < (1048576 : Int)) = true) → (Ob ((((0 : Int) ≤ (0 : Int)) ∧ ((0 : Int) < (2 : Int)))) ∧ (((decide (a < (1099511627776 : Int)) = true) → (Ob ((((0 : Int) ≤ (0 : Int)) ∧ ((0 : Int) < (2 : Int)))) ∧ (((decide ((-1099511627776 : Int) < a) = true) → (Ob ((((0 : Int) ≤ (0 : Int)) ∧ ((0 : Int) < (2 : Int)))) ∧ (((decide (b < (1099511627776 : Int)) = true) → (Ob ((((0 : Int) ≤ (0 : Int)) ∧ ((0 : Int) < (2 : Int)))) ∧ (((decide ((-1099511627776 : Int) < b) = true) → (Ob ((((0 : Int) ≤ (0 : Int)) ∧ ((0 : Int) < (2 : Int)))) ∧ (Ob ((((0 : Int) ≤ (1 : Int)) ∧ ((1 : Int) < (2 : Int)))) ∧ (Ob ((((0 : Int) ≤ (0 : Int)) ∧ ((0 : Int) < (2 : Int)))) ∧ (Ob ((((0 : Int) ≤ (1 : Int)) ∧ ((1 : Int) < (2 : Int)))) ∧ ((((!decide (cmpV a a1 b b1 < (0 : Int)) == decide (IntKind.i64.wrap (a * b1) < IntKind.i64.wrap (b * a1))) = true) → ((true = false) ∧ (True))) ∧ (((!decide (cmpV a a1 b b1 < (0 : Int)) == decide (IntKind.i64.wrap (a * b1) < IntKind.i64.wrap (b * a1))) = false) → ((((!decide ((0 : Int) < cmpV a a1 b b1) == decide (IntKind.i64.wrap (b * a1) < IntKind.i64.wrap (a * b1))) = true) → ((true = false) ∧ (True))) ∧ (((!decide ((0 : Int) < cmpV a a1 b b1) == decide (IntKind.i64.wrap (b * a1) < IntKind.i64.wrap (a * b1))) = false) → (Ob ((((0 : Int) ≤ (0 : Int)) ∧ ((0 : Int) < (2 : Int)))) ∧ (Ob ((((0 : Int) ≤ (1 : Int)) ∧ ((1 : Int) < (2 : Int)))) ∧ (Ob ((((0 : Int) ≤ (0 : Int)) ∧ ((0 : Int) < (2 : Int)))) ∧ (Ob ((((0 : Int) ≤ (1 : Int)) ∧ ((1 : Int) < (2 : Int)))) ∧ (Ob (((in64 b) ∧ ((in64 b1) ∧ ((in64 c) ∧ (in64 c1))))) ∧ (Ob ((((0 : Int) ≤ (0 : Int)) ∧ ((0 : Int) < (2 : Int)))) ∧ (Ob ((((0 : Int) ≤ (1 : Int)) ∧ ((1 : Int) < (2 : Int)))) ∧ (Ob ((((0 : Int) ≤ (0 : Int)) ∧ ((0 : Int) < (2 : Int)))) ∧ (Ob ((((0 : Int) ≤ (1 : Int)) ∧ ((1 : Int) < (2 : Int)))) ∧ (Ob (((in64 a) ∧ ((in64 a1) ∧ ((in64 c) ∧ (in64 c1))))) ∧ ((((!decide (rngE (posB b1 c1) = (0 : Int))) = true) → ((true = true) ∧ (True))) ∧ (((!decide (rngE (posB b1 c1) = (0 : Int))) = false) → (((decide (cmpV a a1 b b1 < (0 : Int)) = true) → ((((!decide (cmpV b b1 c c1 < (0 : Int))) = true) → ((true = true) ∧ (True))) ∧ (((!decide (cmpV b b1 c c1 < (0 : Int))) = false) → ((decide (cmpV a a1 c c1 < (0 : Int)) = true) ∧ (True))))) ∧ ((decide (cmpV a a1 b b1 < (0 : Int)) = false) → ((true = true) ∧ (True))))))))))))))))))))))))) ∧ ((decide ((-1099511627776 : Int) < b) = false) → (Ob ((((0 : Int) ≤ (0 : Int)) ∧ ((0 : Int) < (2 : Int)))) ∧ (Ob ((((0 : Int) ≤ (1 : Int)) ∧ ((1 : Int) < (2 : Int)))) ∧ (Ob ((((0 : Int) ≤ (0 : Int)) ∧ ((0 : Int) < (2 : Int)))) ∧ (Ob ((((0 : Int) ≤ (1 : Int)) ∧ ((1 : Int) < (2 : Int)))) ∧ (Ob (((in64 b) ∧ ((in64 b1) ∧ ((in64 c) ∧ (in64 c1))))) ∧ (Ob ((((0 : Int) ≤ (0 : Int)) ∧ ((0 : Int) < (2 : Int)))) ∧ (Ob ((((0 : Int) ≤ (1 : Int)) ∧ ((1 : Int) < (2 : Int)))) ∧ (Ob ((((0 : Int) ≤ (0 : Int)) ∧ ((0 : Int) < (2 : Int)))) ∧ (Ob ((((0 : Int) ≤ (1 : Int)) ∧ ((1 : Int) < (2 : Int)))) ∧ (Ob (((in64 a) ∧ ((in64 a1) ∧ ((in64 c) ∧ (in64 c1))))) ∧ ((((!decide (rngE (posB b1 c1) = (0 : Int))) = true) → ((true = true) ∧ (True))) ∧ (((!decide (rngE (posB b1 c1) = (0 : Int))) = false) → (((decide (cmpV a a1 b b1 < (0 : Int)) = true) → ((((!decide (cmpV b b1 c c1 < (0 : Int))) = true) → ((true = true) ∧ (True))) ∧ (((!decide (cmpV b b1 c c1 < (0 : Int))) = false) → ((decide (cmpV a a1 c c1 < (0 : Int)) = true) ∧ (True))))) ∧ ((decide (cmpV a a1 b b1 < (0 : Int)) = false) → ((true = true) ∧ (True)))))))))))))))))))) ∧ ((decide (b < (1099511627776 : Int)) = false) → (Ob ((((0 : Int) ≤ (0 : Int)) ∧ ((0 : Int) < (2 : Int)))) ∧ (Ob ((((0 : Int) ≤ (1 : Int)) ∧ ((1 : Int) < (2 : Int)))) ∧ (Ob ((((0 : Int) ≤ (0 : Int)) ∧ ((0 : Int) < (2 : Int)))) ∧ (Ob ((((0 : Int) ≤ (1 : Int)) ∧ ((1 : Int) < (2 : Int)))) ∧ (Ob (((in64 b) ∧ ((in64 b1) ∧ ((in64 c) ∧ (in64 c1))))) ∧ (Ob ((((0 : Int) ≤ (0 : Int)) ∧ ((0 : Int) < (2 : Int)))) ∧ (Ob ((((0 : Int) ≤ (1 : Int)) ∧ ((1 : Int) < (2 : Int)))) ∧ (Ob ((((0 : Int) ≤ (0 : Int)) ∧ ((0 : Int) < (2 : Int)))) ∧ (Ob ((((0 : Int) ≤ (1 : Int)) ∧ ((1 : Int) < (2 : Int)))) ∧ (Ob (((in64 a) ∧ ((in64 a1) ∧ ((in64 c) ∧ (in64 c1))))) ∧ ((((!decide (rngE (posB b1 c1) = (0 : Int))) = true) → ((true = true) ∧ (True))) ∧ (((!decide (rngE (posB b1 c1) = (0 : Int))) = false) → (((decide (cmpV a a1 b b1 < (0 : Int)) = true) → ((((!decide (cmpV b b1 c c1 < (0 : Int))) = true) → ((true = true) ∧ (True))) ∧ (((!decide (cmpV b b1 c c1 < (0 : Int))) = false) → ((decide (cmpV a a1 c c1 < (0 : Int)) = true) ∧ (True))))) ∧ ((decide (cmpV a a1 b b1 < (0 : Int)) = false) → ((true = true) ∧ (True)))))))))))))))))))) ∧ ((decide ((-1099511627776 : Int) < a) = false) → (Ob ((((0 : Int) ≤ (0 : Int)) ∧ ((0 : Int) < (2 : Int)))) ∧ (Ob ((((0 : Int) ≤ (1 : Int)) ∧ ((1 : Int) < (2 : Int)))) ∧ (Ob ((((0 : Int) ≤ (0 : Int)) ∧ ((0 : Int) < (2 : Int)))) ∧ (Ob ((((0 : Int) ≤ (1 : Int)) ∧ ((1 : Int) < (2 : Int)))) ∧ (Ob (((in64 b) ∧ ((in64 b1) ∧ ((in64 c) ∧ (in64 c1))))) ∧ (Ob ((((0 : Int) ≤ (0 : Int)) ∧ ((0 : Int) < (2 : Int)))) ∧ (Ob ((((0 : Int) ≤ (1 : Int)) ∧ ((1 : Int) < (2 : Int)))) ∧ (Ob ((((0 : Int) ≤ (0 : Int)) ∧ ((0 : Int) < (2 : Int)))) ∧ (Ob ((((0 : Int) ≤ (1 : Int)) ∧ ((1 : Int) < (2 : Int)))) ∧ (Ob (((in64 a) ∧ ((in64 a1) ∧ ((in64 c) ∧ (in64 c1))))) ∧ ((((!decide (rngE (posB b1 c1) = (0 : Int))) = true) → ((true = true) ∧ (True))) ∧ (((!decide (rngE (posB b1 c1) = (0 : Int))) = false) → (((decide (cmpV a a1 b b1 < (0 : Int)) = true) → ((((!decide (cmpV b b1 c c1 < (0 : Int))) = true) → ((true = true) ∧ (True))) ∧ (((!decide (cmpV b b1 c c1 < (0 : Int))) = false) → ((decide (cmpV a a1 c c1 < (0 : Int)) = true) ∧ (True))))) ∧ ((decide (cmpV a a1 b b1 < (0 : Int)) = false) → ((true = true) ∧ (True)))))))))))))))))))) ∧ ((decide (a < (1099511627776 : Int)) = false) → (Ob ((((0 : Int) ≤ (0 : Int)) ∧ ((0 : Int) < (2 : Int)))) ∧ (Ob ((((0 : Int) ≤ (1 : Int)) ∧ ((1 : Int) < (2 : Int)))) ∧ (Ob ((((0 : Int) ≤ (0 : Int)) ∧ ((0 : Int) < (2 : Int)))) ∧ (Ob ((((0 : Int) ≤ (1 : Int)) ∧ ((1 : Int) < (2 : Int)))) ∧ (Ob (((in64 b) ∧ ((in64 b1) ∧ ((in64 c) ∧ (in64 c1))))) ∧ (Ob ((((0 : Int) ≤ (0 : Int)) ∧ ((0 : Int) < (2 : Int)))) ∧ (Ob ((((0 : Int) ≤ (1 : Int)) ∧ ((1 : Int) < (2 : Int)))) ∧ (Ob ((((0 : Int) ≤ (0 : Int)) ∧ ((0 : Int) < (2 : Int)))) ∧ (Ob ((((0 : Int) ≤ (1 : Int)) ∧ ((1 : Int) < (2 : Int)))) ∧ (Ob (((in64 a) ∧ ((in64 a1) ∧ ((in64 c) ∧ (in64 c1))))) ∧ ((((!decide (rngE (posB b1 c1) = (0 : Int))) = true) → ((true = true) ∧ (True))) ∧ (((!decide (rngE (posB b1 c1) = (0 : Int))) = false) → (((decide (cmpV a a1 b b1 < (0 : Int)) = true) → ((((!decide (cmpV b b1 c c1 < (0 : Int))) = true) → ((true = true) ∧ (True))) ∧ (((!decide (cmpV b b1 c c1 < (0 : Int))) = false) → ((decide (cmpV a a1 c c1 < (0 : Int)) = true) ∧ (True))))) ∧ ((decide (cmpV a a1 b b1 < (0 : Int)) = false) → ((true = true) ∧ (True)))))))))))))))))))) ∧ ((decide (b1 < (1048576 : Int)) = false) → (Ob ((((0 : Int) ≤ (0 : Int)) ∧ ((0 : Int) < (2 : Int)))) ∧ (Ob ((((0 : Int) ≤ (1 : Int)) ∧ ((1 : Int) < (2 : Int)))) ∧ (Ob ((((0 : Int) ≤ (0 : Int)) ∧ ((0 : Int) < (2 : Int)))) ∧ (Ob ((((0 : Int) ≤ (1 : Int)) ∧ ((1 : Int) < (2 : Int)))) ∧ (Ob (((in64 b) ∧ ((in64 b1) ∧ ((in64 c) ∧ (in64 c1))))) ∧ (Ob ((((0 : Int) ≤ (0 : Int)) ∧ ((0 : Int) < (2 : Int)))) ∧ (Ob ((((0 : Int) ≤ (1 : Int)) ∧ ((1 : Int) < (2 : Int)))) ∧ (Ob ((((0 : Int) ≤ (0 : Int)) ∧ ((0 : Int) < (2 : Int)))) ∧ (Ob ((((0 : Int) ≤ (1 : Int)) ∧ ((1 : Int) < (2 : Int)))) ∧ (Ob (((in64 a) ∧ ((in64 a1) ∧ ((in64 c) ∧ (in64 c1))))) ∧ ((((!decide (rngE (posB b1 c1) = (0 : Int))) = true) → ((true = true) ∧ (True))) ∧ (((!decide (rngE (posB b1 c1) = (0 : Int))) = false) → (((decide (cmpV a a1 b b1 < (0 : Int)) = true) → ((((!decide (cmpV b b1 c c1 < (0 : Int))) = true) → ((true = true) ∧ (True))) ∧ (((!decide (cmpV b b1 c c1 < (0 : Int))) = false) → ((decide (cmpV a a1 c c1 < (0 : Int)) = true) ∧ (True))))) ∧ ((decide (cmpV a a1 b b1 < (0 : Int)) = false) → ((true = true) ∧ (True)))))))))))))))))))) ∧ ((decide (a1 < (1048576 : Int)) = false) → (Ob ((((0 : Int) ≤ (0 : Int)) ∧ ((0 : Int) < (2 : Int)))) ∧ (Ob ((((0 : Int) ≤ (1 : Int)) ∧ ((1 : Int) < (2 : Int)))) ∧ (Ob ((((0 : Int) ≤ (0 : Int)) ∧ ((0 : Int) < (2 : Int)))) ∧ (Ob ((((0 : Int) ≤ (1 : Int)) ∧ ((1 : Int) < (2 : Int)))) ∧ (Ob (((in64 b) ∧ ((in64 b1) ∧ ((in64 c) ∧ (in64 c1))))) ∧ (Ob ((((0 : Int) ≤ (0 : Int)) ∧ ((0 : Int) < (2 : Int)))) ∧ (Ob ((((0 : Int) ≤ (1 : Int)) ∧ ((1 : Int) < (2 : Int)))) ∧ (Ob ((((0 : Int) ≤ (0 : Int)) ∧ ((0 : Int) < (2 : Int)))) ∧ (Ob ((((0 : Int) ≤ (1 : Int)) ∧ ((1 : Int) < (2 : Int)))) ∧ (Ob (((in64 a) ∧ ((in64 a1) ∧ ((in64 c) ∧ (in64 c1))))) ∧ ((((!decide (rngE (posB b1 c1) = (0 : Int))) = true) → ((true = true) ∧ (True))) ∧ (((!decide (rngE (posB b1 c1) = (0 : Int))) = false) → (((decide (cmpV a a1 b b1 < (0 : Int)) = true) → ((((!decide (cmpV b b1 c c1 < (0 : Int))) = true) → ((true = true) ∧ (True))) ∧ (((!decide (cmpV b b1 c c1 < (0 : Int))) = false) → ((decide (cmpV a a1 c c1 < (0 : Int)) = true) ∧ (True))))) ∧ ((decide (cmpV a a1 b b1 < (0 : Int)) = false) → ((true = true) ∧ (True)))))))))))))))))))) ∧ (((!greatB b) = false) → (Ob ((((0 : Int) ≤ (0 : Int)) ∧ ((0 : Int) < (2 : Int)))) ∧ (Ob ((((0 : Int) ≤ (1 : Int)) ∧ ((1 : Int) < (2 : Int)))) ∧ (Ob ((((0 : Int) ≤ (0 : Int)) ∧ ((0 : Int) < (2 : Int)))) ∧ (Ob ((((0 : Int) ≤ (1 : Int)) ∧ ((1 : Int) < (2 : Int)))) ∧ (Ob (((in64 b) ∧ ((in64 b1) ∧ ((in64 c) ∧ (in64 c1))))) ∧ (Ob ((((0 : Int) ≤ (0 : Int)) ∧ ((0 : Int) < (2 : Int)))) ∧ (Ob ((((0 : Int) ≤ (1 : Int)) ∧ ((1 : Int) < (2 : Int)))) ∧ (Ob ((((0 : Int) ≤ (0 : Int)) ∧ ((0 : Int) < (2 : Int)))) ∧ (Ob ((((0 : Int) ≤ (1 : Int)) ∧ ((1 : Int) < (2 : Int)))) ∧ (Ob (((in64 a) ∧ ((in64 a1) ∧ ((in64 c) ∧ (in64 c1))))) ∧ ((((!decide (rngE (posB b1 c1) = (0 : Int))) = true) → ((true = true) ∧ (True))) ∧ (((!decide (rngE (posB b1 c1) = (0 : Int))) = false) → (((decide (cmpV a a1 b b1 < (0 : Int)) = true) → ((((!decide (cmpV b b1 c c1 < (0 : Int))) = true) → ((true = true) ∧ (True))) ∧ (((!decide (cmpV b b1 c c1 < (0 : Int))) = false) → ((decide (cmpV a a1 c c1 < (0 : Int)) = true) ∧ (True))))) ∧ ((decide (cmpV a a1 b b1 < (0 : Int)) = false) → ((true = true) ∧ (True)))))))))))))))))))) ∧ (((!greatB a) = false) → (Ob ((((0 : Int) ≤ (0 : Int)) ∧ ((0 : Int) < (2 : Int)))) ∧ (Ob ((((0 : Int) ≤ (1 : Int)) ∧ ((1 : Int) < (2 : Int)))) ∧ (Ob ((((0 : Int) ≤ (0 : Int)) ∧ ((0 : Int) < (2 : Int)))) ∧ (Ob ((((0 : Int) ≤ (1 : Int)) ∧ ((1 : Int) < (2 : Int)))) ∧ (Ob (((in64 b) ∧ ((in64 b1) ∧ ((in64 c) ∧ (in64 c1))))) ∧ (Ob ((((0 : Int) ≤ (0 : Int)) ∧ ((0 : Int) < (2 : Int)))) ∧ (Ob ((((0 : Int) ≤ (1 : Int)) ∧ ((1 : Int) < (2 : Int)))) ∧ (Ob ((((0 : Int) ≤ (0 : Int)) ∧ ((0 : Int) < (2 : Int)))) ∧ (Ob ((((0 : Int) ≤ (1 : Int)) ∧ ((1 : Int) < (2 : Int)))) ∧ (Ob (((in64 a) ∧ ((in64 a1) ∧ ((in64 c) ∧ (in64 c1))))) ∧ ((((!decide (rngE (posB b1 c1) = (0 : Int))) = true) → ((true = true) ∧ (True))) ∧ (((!decide (rngE (posB b1 c1) = (0 : Int))) = false) → (((decide (cmpV a a1 b b1 < (0 : Int)) = true) → ((((!decide (cmpV b b1 c c1 < (0 : Int))) = true) → ((true = true) ∧ (True))) ∧ (((!decide (cmpV b b1 c c1 < (0 : Int))) = false) → ((decide (cmpV a a1 c c1 < (0 : Int)) = true) ∧ (True))))) ∧ ((decide (cmpV a a1 b b1 < (0 : Int)) = false) → ((true = true) ∧ (True))))))))))))))))))))))))))) ∧ ((decide (lowN a a1 = lowN b b1) = false) → ((((!!decide (cmpV a a1 b b1 = (0 : Int))) = true) → ((true = false) ∧ (True))) ∧ (((!!decide (cmpV a a1 b b1 = (0 : Int))) = false) → (Ob ((((0 : Int) ≤ (0 : Int)) ∧ ((0 : Int) < (2 : Int)))) ∧ (Ob ((((0 : Int) ≤ (1 : Int)) ∧ ((1 : Int) < (2 : Int)))) ∧ (Ob (((in64 (lowN a a1)) ∧ ((in64 (lowD a a1)) ∧ ((in64 a) ∧ (in64 a1))))) ∧ ((((!decide (cmpV (lowN a a1) (lowD a a1) a a1 = (0 : Int))) = true) → ((true = false) ∧ (True))) ∧ (((!decide (cmpV (lowN a a1) (lowD a a1) a a1 = (0 : Int))) = false) → (Ob ((((0 : Int) ≤ (0 : Int)) ∧ ((0 : Int) < (2 : Int)))) ∧ ((((!greatB a) = true) → (Ob ((((0 : Int) ≤ (0 : Int)) ∧ ((0 : Int) < (2 : Int)))) ∧ ((((!greatB b) = true) → (Ob ((((0 : Int) ≤ (1 : Int)) ∧ ((1 : Int) < (2 : Int)))) ∧ (((decide (a1 < (1048576 : Int)) = true) → (Ob ((((0 : Int) ≤ (1 : Int)) ∧ ((1 : Int) < (2 : Int)))) ∧ (((decide (b1 < (1048576 : Int)) = true) → (Ob ((((0 : Int) ≤ (0 : Int)) ∧ ((0 : Int) < (2 : Int)))) ∧ (((decide (a < (1099511627776 : Int)) = true) → (Ob ((((0 : Int) ≤ (0 : Int)) ∧ ((0 : Int) < (2 : Int)))) ∧ (((decide ((-1099511627776 : Int) < a) = true) → (Ob ((((0 : Int) ≤ (0 : Int)) ∧ ((0 : Int) < (2 : Int)))) ∧ (((decide (b < (1099511627776 : Int)) = true) → (Ob ((((0 : Int) ≤ (0 : Int)) ∧ ((0 : Int) < (2 : Int)))) ∧ (((decide ((-1099511627776 : Int) < b) = true) → (Ob ((((0 : Int) ≤ (0 : Int)) ∧ ((0 : Int) < (2 : Int)))) ∧ (Ob ((((0 : Int) ≤ (1 : Int)) ∧ ((1 : Int) < (2 : Int)))) ∧ (Ob ((((0 : Int) ≤ (0 : Int)) ∧ ((0 : Int) < (2 : Int)))) ∧ (Ob ((((0 : Int) ≤ (1 : Int)) ∧ ((1 : Int) < (2 : Int)))) ∧ ((((!decide (cmpV a a1 b b1 < (0 : Int)) == decide (IntKind.i64.wrap (a * b1) < IntKind.i64.wrap (b * a1))) = true) → ((true = false) ∧ (True))) ∧ (((!decide (cmpV a a1 b b1 < (0 : Int)) == decide (IntKind.i64.wrap (a * b1) < IntKind.i64.wrap (b * a1))) = false) → ((((!decide ((0 : Int) < cmpV a a1 b b1) == decide (IntKind.i64.wrap (b * a1) < IntKind.i64.wrap (a * b1))) = true) → ((true = false) ∧ (True))) ∧ (((!decide ((0 : Int) < cmpV a a1 b b1) == decide (IntKind.i64.wrap (b * a1) < IntKind.i64.wrap (a * b1))) = false) → (Ob ((((0 : Int) ≤ (0 : Int)) ∧ ((0 : Int) < (2 : Int)))) ∧ (Ob ((((0 : Int) ≤ (1 : Int)) ∧ ((1 : Int) < (2 : Int)))) ∧ (Ob ((((0 : Int) ≤ (0 : Int)) ∧ ((0 : Int) < (2 : Int)))) ∧ (Ob ((((0 : Int) ≤ (1 : Int)) ∧ ((1 : Int) < (2 : Int)))) ∧ (Ob (((in64 b) ∧ ((in64 b1) ∧ ((in64 c) ∧ (in64 c1))))) ∧ (Ob ((((0 : Int) ≤ (0 : Int)) ∧ ((0 : Int) < (2 : Int)))) ∧ (Ob ((((0 : Int) ≤ (1 : Int)) ∧ ((1 : Int) < (2 : Int)))) ∧ (Ob ((((0 : Int) ≤ (0 : Int)) ∧ ((0 : Int) < (2 : Int)))) ∧ (Ob ((((0 : Int) ≤ (1 : Int)) ∧ ((1 : Int) < (2 : Int)))) ∧ (Ob (((in64 a) ∧ ((in64 a1) ∧ ((in64 c) ∧ (in64 c1))))) ∧ ((((!decide (rngE (posB b1 c1) = (0 : Int))) = true) → ((true = true) ∧ (True))) ∧ (((!decide (rngE (posB b1 c1) = (0 : Int))) = false) → (((decide (cmpV a a1 b b1 < (0 : Int)) = true) → ((((!decide (cmpV b b1 c c1 < (0 : Int))) = true) → ((true = true) ∧ (True))) ∧ (((!decide (cmpV b b1 c c1 < (0 : Int))) = false) → ((decide (cmpV a a1 c c1 < (0 : Int)) = true) ∧ (True))))) ∧ ((decide (cmpV a a1 b b1 < (0 : Int)) = false) → ((true = true) ∧ (True))))))))))))))))))))))))) ∧ ((decide ((-1099511627776 : Int) < b) = false) → (Ob ((((0 : Int) ≤ (0 : Int)) ∧ ((0 : Int) < (2 : Int)))) ∧ (Ob ((((0 : Int) ≤ (1 : Int)) ∧ ((1 : Int) < (2 : Int)))) ∧ (Ob ((((0 : Int) ≤ (0 : Int)) ∧ ((0 : Int) < (2 : Int)))) ∧ (Ob ((((0 : Int) ≤ (1 : Int)) ∧ ((1 : Int) < (2 : Int)))) ∧ (Ob (((in64 b) ∧ ((in64 b1) ∧ ((in64 c) ∧ (in64 c1))))) ∧ (Ob ((((0 : Int) ≤ (0 : Int)) ∧ ((0 : Int) < (2 : Int)))) ∧ (Ob ((((0 : Int) ≤ (1 : Int)) ∧ ((1 : Int) < (2 : Int)))) ∧ (Ob ((((0 : Int) ≤ (0 : Int)) ∧ ((0 : Int) < (2 : Int)))) ∧ (Ob ((((0 : Int) ≤ (1 : Int)) ∧ ((1 : Int) < (2 : Int)))) ∧ (Ob (((in64 a) ∧ ((in64 a1) ∧ ((in64 c) ∧ (in64 c1))))) ∧ ((((!decide (rngE (posB b1 c1) = (0 : Int))) = true) → ((true = true) ∧ (True))) ∧ (((!decide (rngE (posB b1 c1) = (0 : Int))) = false) → (((decide (cmpV a a1 b b1 < (0 : Int)) = true) → ((((!decide (cmpV b b1 c c1 < (0 : Int))) = true) → ((true = true) ∧ (True))) ∧ (((!decide (cmpV b b1 c c1 < (0 : Int))) = false) → ((decide (cmpV a a1 c c1 < (0 : Int)) = true) ∧ (True))))) ∧ ((decide (cmpV a a1 b b1 < (0 : Int)) = false) → ((true = true) ∧ (True)))))))))))))))))))) ∧ ((decide (b < (1099511627776 : Int)) = false) → (Ob ((((0 : Int) ≤ (0 : Int)) ∧ ((0 : Int) < (2 : Int)))) ∧ (Ob ((((0 : Int) ≤ (1 : Int)) ∧ ((1 : Int) < (2 : Int)))) ∧ (Ob ((((0 : Int) ≤ (0 : Int)) ∧ ((0 : Int) < (2 : Int)))) ∧ (Ob ((((0 : Int) ≤ (1 : Int)) ∧ ((1 : Int) < (2 : Int)))) ∧ (Ob (((in64 b) ∧ ((in64 b1) ∧ ((in64 c) ∧ (in64 c1))))) ∧ (Ob ((((0 : Int) ≤ (0 : Int)) ∧ ((0 : Int) < (2 : Int)))) ∧ (Ob ((((0 : Int) ≤ (1 : Int)) ∧ ((1 : Int) < (2 : Int)))) ∧ (Ob ((((0 : Int) ≤ (0 : Int)) ∧ ((0 : Int) < (2 : Int)))) ∧ (Ob ((((0 : Int) ≤ (1 : Int)) ∧ ((1 : Int) < (2 : Int)))) ∧ (Ob (((in64 a) ∧ ((in64 a1) ∧ ((in64 c) ∧ (in64 c1))))) ∧ ((((!decide (rngE (posB b1 c1) = (0 : Int))) = true) → ((true = true) ∧ (True))) ∧ (((!decide (rngE (posB b1 c1) = (0 : Int))) = false) → (((decide (cmpV a a1 b b1 < (0 : Int)) = true) → ((((!decide (cmpV b b1 c c1 < (0 : Int))) = true) → ((true = true) ∧ (True))) ∧ (((!decide (cmpV b b1 c c1 < (0 : Int))) = false) → ((decide (cmpV a a1 c c1 < (0 : Int)) = true) ∧ (True))))) ∧ ((decide (cmpV a a1 b b1 < (0 : Int)) = false) → ((true = true) ∧ (True)))))))))))))))))))) ∧ ((decide ((-1099511627776 : Int) < a) = false) → (Ob ((((0 : Int) ≤ (0 : Int)) ∧ ((0 : Int) < (2 : Int)))) ∧ (Ob ((((0 : Int) ≤ (1 : Int)) ∧ ((1 : Int) < (2 : Int)))) ∧ (Ob ((((0 : Int) ≤ (0 : Int)) ∧ ((0 : Int) < (2 : Int)))) ∧ (Ob ((((0 : Int) ≤ (1 : Int)) ∧ ((1 : Int) < (2 : Int)))) ∧ (Ob (((in64 b) ∧ ((in64 b1) ∧ ((in64 c) ∧ (in64 c1))))) ∧ (Ob ((((0 : Int) ≤ (0 : Int)) ∧ ((0 : Int) < (2 : Int)))) ∧ (Ob ((((0 : Int) ≤ (1 : Int)) ∧ ((1 : Int) < (2 : Int)))) ∧ (Ob ((((0 : Int) ≤ (0 : Int)) ∧ ((0 : Int) < (2 : Int)))) ∧ (Ob ((((0 : Int) ≤ (1 : Int)) ∧ ((1 : Int) < (2 : Int)))) ∧ (Ob (((in64 a) ∧ ((in64 a1) ∧ ((in64 c) ∧ (in64 c1))))) ∧ ((((!decide (rngE (posB b1 c1) = (0 : Int))) = true) → ((true = true) ∧ (True))) ∧ (((!decide (rngE (posB b1 c1) = (0 : Int))) = false) → (((decide (cmpV a a1 b b1 < (0 : Int)) = true) → ((((!decide (cmpV b b1 c c1 < (0 : Int))) = true) → ((true = true) ∧ (True))) ∧ (((!decide (cmpV b b1 c c1 < (0 : Int))) = false) → ((decide (cmpV a a1 c c1 < (0 : Int)) = true) ∧ (True))))) ∧ ((decide (cmpV a a1 b b1 < (0 : Int)) = false) → ((true = true) ∧ (True)))))))))))))))))))) ∧ ((decide (a < (1099511627776 : Int)) = false) → (Ob ((((0 : Int) ≤ (0 : Int)) ∧ ((0 : Int) < (2 : Int)))) ∧ (Ob ((((0 : Int) ≤ (1 : Int)) ∧ ((1 : Int) < (2 : Int)))) ∧ (Ob ((((0 : Int) ≤ (0 : Int)) ∧ ((0 : Int) < (2 : Int)))) ∧ (Ob ((((0 : Int) ≤ (1 : Int)) ∧ ((1 : Int) < (2 : Int)))) ∧ (Ob (((in64 b) ∧ ((in64 b1) ∧ ((in64 c) ∧ (in64 c1))))) ∧ (Ob ((((0 : Int) ≤ (0 : Int)) ∧ ((0 : Int) < (2 : Int)))) ∧ (Ob ((((0 : Int) ≤ (1 : Int)) ∧ ((1 : Int) < (2 : Int)))) ∧ (Ob ((((0 : Int) ≤ (0 : Int)) ∧ ((0 : Int) < (2 : Int)))) ∧ (Ob ((((0 : Int) ≤ (1 : Int)) ∧ ((1 : Int) < (2 : Int)))) ∧ (Ob (((in64 a) ∧ ((in64 a1) ∧ ((in64 c) ∧ (in64 c1))))) ∧ ((((!decide (rngE (posB b1 c1) = (0 : Int))) = true) → ((true = true) ∧ (True))) ∧ (((!decide (rngE (posB b1 c1) = (0 : Int))) = false) → (((decide (cmpV a a1 b b1 < (0 : Int)) = true) → ((((!decide (cmpV b b1 c c1 < (0 : Int))) = true) → ((true = true) ∧ (True))) ∧ (((!decide (cmpV b b1 c c1 < (0 : Int))) = false) → ((decide (cmpV a a1 c c1 < (0 : Int)) = true) ∧ (True))))) ∧ ((decide (cmpV a a1 b b1 < (0 : Int)) = false) → ((true = true) ∧ (True)))))))))))))))))))) ∧ ((decide (b1 < (1048576 : Int)) = false) → (Ob ((((0 : Int) ≤ (0 : Int)) ∧ ((0 : Int) < (2 : Int)))) ∧ (Ob ((((0 : Int) ≤ (1 : Int)) ∧ ((1 : Int) < (2 : Int)))) ∧ (Ob ((((0 : Int) ≤ (0 : Int)) ∧ ((0 : Int) < (2 : Int)))) ∧ (Ob ((((0 : Int) ≤ (1 : Int)) ∧ ((1 : Int) < (2 : Int)))) ∧ (Ob (((in64 b) ∧ ((in64 b1) ∧ ((in64 c) ∧ (in64 c1))))) ∧ (Ob ((((0 : Int) ≤ (0 : Int)) ∧ ((0 : Int) < (2 : Int)))) ∧ (Ob ((((0 : Int) ≤ (1 : Int)) ∧ ((1 : Int) < (2 : Int)))) ∧ (Ob ((((0 : Int) ≤ (0 : Int)) ∧ ((0 : Int) < (2 : Int)))) ∧ (Ob ((((0 : Int) ≤ (1 : Int)) ∧ ((1 : Int) < (2 : Int)))) ∧ (Ob (((in64 a) ∧ ((in64 a1) ∧ ((in64 c) ∧ (in64 c1))))) ∧ ((((!decide (rngE (posB b1 c1) = (0 : Int))) = true) → ((true = true) ∧ (True))) ∧ (((!decide (rngE (posB b1 c1) = (0 : Int))) = false) → (((decide (cmpV a a1 b b1 < (0 : Int)) = true) → ((((!decide (cmpV b b1 c c1 < (0 : Int))) = true) → ((true = true) ∧ (True))) ∧ (((!decide (cmpV b b1 c c1 < (0 : Int))) = false) → ((decide (cmpV a a1 c c1 < (0 : Int)) = true) ∧ (True))))) ∧ ((decide (cmpV a a1 b b1 < (0 : Int)) = false) → ((true = true) ∧ (True)))))))))))))))))))) ∧ ((decide (a1 < (1048576 : Int)) = false) → (Ob ((((0 : Int) ≤ (0 : Int)) ∧ ((0 : Int) < (2 : Int)))) ∧ (Ob ((((0 : Int) ≤ (1 : Int)) ∧ ((1 : Int) < (2 : Int)))) ∧ (Ob ((((0 : Int) ≤ (0 : Int)) ∧ ((0 : Int) < (2 : Int)))) ∧ (Ob ((((0 : Int) ≤ (1 : Int)) ∧ ((1 : Int) < (2 : Int)))) ∧ (Ob (((in64 b) ∧ ((in64 b1) ∧ ((in64 c) ∧ (in64 c1))))) ∧ (Ob ((((0 : Int) ≤ (0 : Int)) ∧ ((0 : Int) < (2 : Int)))) ∧ (Ob ((((0 : Int) ≤ (1 : Int)) ∧ ((1 : Int) < (2 : Int)))) ∧ (Ob ((((0 : Int) ≤ (0 : Int)) ∧ ((0 : Int) < (2 : Int)))) ∧ (Ob ((((0 : Int) ≤ (1 : Int)) ∧ ((1 : Int) < (2 : Int)))) ∧ (Ob (((in64 a) ∧ ((in64 a1) ∧ ((in64 c) ∧ (in64 c1))))) ∧ ((((!decide (rngE (posB b1 c1) = (0 : Int))) = true) → ((true = true) ∧ (True))) ∧ (((!decide (rngE (posB b1 c1) = (0 : Int))) = false) → (((decide (cmpV a a1 b b1 < (0 : Int)) = true) → ((((!decide (cmpV b b1 c c1 < (0 : Int))) = true) → ((true = true) ∧ (True))) ∧ (((!decide (cmpV b b1 c c1 < (0 : Int))) = false) → ((decide (cmpV a a1 c c1 < (0 : Int)) = true) ∧ (True))))) ∧ ((decide (cmpV a a1 b b1 < (0 : Int)) = false) → ((true = true) ∧ (True)))))))))))))))))))) ∧ (((!greatB b) = false) → (Ob ((((0 : Int) ≤ (0 : Int)) ∧ ((0 : Int) < (2 : Int)))) ∧ (Ob ((((0 : Int) ≤ (1 : Int)) ∧ ((1 : Int) < (2 : Int)))) ∧ (Ob ((((0 : Int) ≤ (0 : Int)) ∧ ((0 : Int) < (2 : Int)))) ∧ (Ob ((((0 : Int) ≤ (1 : Int)) ∧ ((1 : Int) < (2 : Int)))) ∧ (Ob (((in64 b) ∧ ((in64 b1) ∧ ((in64 c) ∧ (in64 c1))))) ∧ (Ob ((((0 : Int) ≤ (0 : Int)) ∧ ((0 : Int) < (2 : Int)))) ∧ (Ob ((((0 : Int) ≤ (1 : Int)) ∧ ((1 : Int) < (2 : Int)))) ∧ (Ob ((((0 : Int) ≤ (0 : Int)) ∧ ((0 : Int) < (2 : Int)))) ∧ (Ob ((((0 : Int) ≤ (1 : Int)) ∧ ((1 : Int) < (2 : Int)))) ∧ (Ob (((in64 a) ∧ ((in64 a1) ∧ ((in64 c) ∧ (in64 c1))))) ∧ ((((!decide (rngE (posB b1 c1) = (0 : Int))) = true) → ((true = true) ∧ (True))) ∧ (((!decide (rngE (posB b1 c1) = (0 : Int))) = false) → (((decide (cmpV a a1 b b1 < (0 : Int)) = true) → ((((!decide (cmpV b b1 c c1 < (0 : Int))) = true) → ((true = true) ∧ (True))) ∧ (((!decide (cmpV b b1 c c1 < (0 : Int))) = false) → ((decide (cmpV a a1 c c1 < (0 : Int)) = true) ∧ (True))))) ∧ ((decide (cmpV a a1 b b1 < (0 : Int)) = false) → ((true = true) ∧ (True)))))))))))))))))))) ∧ (((!greatB a) = false) → (Ob ((((0 : Int) ≤ (0 : Int)) ∧ ((0 : Int) < (2 : Int)))) ∧ (Ob ((((0 : Int) ≤ (1 : Int)) ∧ ((1 : Int) < (2 : Int)))) ∧ (Ob ((((0 : Int) ≤ (0 : Int)) ∧ ((0 : Int) < (2 : Int)))) ∧ (Ob ((((0 : Int) ≤ (1 : Int)) ∧ ((1 : Int) < (2 : Int)))) ∧ (Ob (((in64 b) ∧ ((in64 b1) ∧ ((in64 c) ∧ (in64 c1))))) ∧ (Ob ((((0 : Int) ≤ (0 : Int)) ∧ ((0 : Int) < (2 : Int)))) ∧ (Ob ((((0 : Int) ≤ (1 : Int)) ∧ ((1 : Int) < (2 : Int)))) ∧ (Ob ((((0 : Int) ≤ (0 : Int)) ∧ ((0 : Int) < (2 : Int)))) ∧ (Ob ((((0 : Int) ≤ (1 : Int)) ∧ ((1 : Int) < (2 : Int)))) ∧ (Ob (((in64 a) ∧ ((in64 a1) ∧ ((in64 c) ∧ (in64 c1))))) ∧ ((((!decide (rngE (posB b1 c1) = (0 : Int))) = true) → ((true = true) ∧ (True))) ∧ (((!decide (rngE (posB b1 c1) = (0 : Int))) = false) → (((decide (cmpV a a1 b b1 < (0 : Int)) = true) → ((((!decide (cmpV b b1 c c1 < (0 : Int))) = true) → ((true = true) ∧ (True))) ∧ (((!decide (cmpV b b1 c c1 < (0 : Int))) = false) → ((decide (cmpV a a1 c c1 < (0 : Int)) = true) ∧ (True))))) ∧ ((decide (cmpV a a1 b b1 < (0 : Int)) = false) → ((true = true) ∧ (True))))))))))))))))))))))))))))))))))))))))))))))))))))))))))))))))) := by kernel_rfl
theorem tmod_zero (y n : Int) : y.tmod n = 0 ↔ y % n = 0 := ⟨fun h => Int.emod_eq_zero_of_dvd (Int.dvd_of_tmod_eq_zero h), fun h => Int.tmod_eq_zero_of_dvd (Int.dvd_of_emod_eq_zero h)⟩
/-- What is left out when a quotient is rounded. -/
theorem round_facts {n d m : Int} (hd : 0 < d) (hm : 1 ≤ m ∧ m ≤ 6) : ∃ r, r = n - roundS n d m * d ∧ -d < r ∧ r < d ∧ (r = 0 ↔ n % d = 0) ∧ (m = 1 → 0 ≤ r) ∧ (m = 2 → r ≤ 0) ∧ (m = 3 → r = 0 ∨ (0 < r ∧ 0 < n) ∨ (r < 0 ∧ n < 0)) ∧
    (m = 4 → (2 * r < d ∧ -d < 2 * r) ∨ (2 * r = d ∧ n < 0) ∨ (2 * r = -d ∧ 0 < n)) ∧ (m = 6 → (2 * r < d ∧ -d < 2 * r) ∨ (2 * r = d ∧ 0 < n) ∨ (2 * r = -d ∧ n < 0)) ∧
    (m = 5 → (2 * r < d ∧ -d < 2 * r) ∨ ((2 * r = d ∨ 2 * r = -d) ∧ roundS n d m % 2 = 0)) ∧
    ((roundS n d m = n / d ∧ r = n % d) ∨ (roundS n d m = n / d + 1 ∧ r = n % d - d ∧ 0 < n % d)) := by
  have h1 := Int.emod_nonneg n (b := d) (by omega)
  have h2 := Int.emod_lt_of_pos n hd
  have h3 := Int.ediv_mul_add_emod n d
  have h4 : (0 ≤ n / d ∧ 0 ≤ n) ∨ (n / d < 0 ∧ n < 0) := by
    rcases Int.lt_or_le n 0 with h | h
    · exact .inr ⟨Int.ediv_neg_of_neg_of_pos h hd, h⟩
    · exact .inl ⟨Int.ediv_nonneg h (by omega), h⟩
  refine ⟨_, rfl, ?_⟩
  have h5 : (n / d + 1) * d = n / d * d + d := by rw [Int.add_mul, Int.one_mul]
  have h7 : 0 ≤ n → n / d * d ≤ n := by omega
  have h8 : 0 < n % d → 0 ≤ n / d → 0 < n := fun a b => by
    have := Int.mul_nonneg b (Int.le_of_lt hd); omega
  unfold roundS nearB
  generalize n / d = L at *
  generalize hR : n % d = R at *
  by_cases hnear : 0 < R ∧ (if m = 2 then decide (0 < R) else if m = 3 then decide (0 < R) && decide (L < 0) else if m = 1 then false else if R = d - R then (if m = 4 then decide (0 ≤ L) else if m = 6 then decide (L < 0) else decide (L % 2 ≠ 0)) else decide (d - R < R)) = true
  · rw [if_pos hnear, h5]
    obtain ⟨g1, g2⟩ := hnear
    generalize L * d = X at *
    have m1 : m ≠ 1 := fun h => by subst h; simp at g2
    refine ⟨by omega, by omega, by omega, by omega, by omega, fun h => ?_, fun h => ?_, fun h => ?_, fun h => ?_, .inr ⟨rfl, by omega, g1⟩⟩
    · subst h; simp at g2; omega
    · subst h; simp at g2; split at g2 <;> (try simp at g2) <;> omega
    · subst h; simp at g2; split at g2 <;> (try simp at g2) <;> omega
    · subst h; simp at g2; split at g2 <;> (try simp at g2) <;> omega
  · rw [if_neg hnear]
    generalize L * d = X at *
    refine ⟨by omega, by omega, by omega, by omega, fun h => ?_, fun h => ?_, fun h => ?_, fun h => ?_, fun h => ?_, .inl ⟨rfl, by omega⟩⟩
    · subst h; simp at hnear; omega
    · subst h; simp at hnear; omega
    · subst h
      by_cases g : 0 < R
      · have := fun h => hnear ⟨g, h⟩
        simp at this; split at this <;> (try simp at this) <;> omega
      · omega
    · subst h
      by_cases g : 0 < R
      · have := fun h => hnear ⟨g, h⟩
        simp at this; split at this <;> (try simp at this) <;> omega
      · omega
    · subst h
      by_cases g : 0 < R
      · have := fun h => hnear ⟨g, h⟩
        simp at this; split at this <;> (try simp at this) <;> omega
      · omega

theorem rightB_f {x : Int} (h : ¬ rightB x = true) : ¬ (-100000000000 ≤ x ∧ x ≤ 100000000000) := fun hc => h (rightB_iff.2 hc)
theorem round_one (n d : Int) : roundS n d 1 = n / d := by
  unfold roundS nearB
  rw [if_neg (by simp)]
theorem round_two (n d : Int) : roundS n d 2 = if 0 < n % d then n / d + 1 else n / d := by
  unfold roundS nearB
  by_cases h : 0 < n % d
  · rw [if_pos ⟨h, by simp [h]⟩, if_pos h]
  · rw [if_neg (fun hc => h hc.1), if_neg h]
theorem neg_ediv_up {n d : Int} (hd : 0 < d) : (-n) / d = - roundS n d 2 := by
  have h1 := Int.emod_nonneg n (b := d) (by omega)
  have h2 := Int.emod_lt_of_pos n hd
  have h3 := Int.ediv_mul_add_emod n d
  rw [round_two]
  split
  · rename_i h
    have := (Int.ediv_emod_unique (a := -n) (b := d) (r := d - n % d) (q := -(n / d + 1)) hd).2 ⟨by
      rw [Int.mul_neg, Int.mul_add, Int.mul_one, Int.mul_comm d]; omega, by omega, by omega⟩
    exact this.1
  · have := (Int.ediv_emod_unique (a := -n) (b := d) (r := 0) (q := -(n / d)) hd).2 ⟨by
      rw [Int.mul_neg, Int.mul_comm d]; omega, by omega, by omega⟩
    exact this.1

theorem great_known : Known Try.prog 11 greatC := by
  refine known1 (nt := 9) (An := fun x => noAnn) (labs := []) (lit := false) (em := em_great) sh_great_le (by kernel_rfl) mixedT tyT_ok .nil Try.func11 (by kernel_rfl) (fun a => by kernel_rfl) (fun a => by rfl) (fun x ha => ?_)
  refine Eq.mpr (vc_great x) ?_
  simp only [eq_self, true_and, and_true, and_self, Bool.not_true, Bool.not_false, Bool.false_eq_true, Bool.true_eq_false, false_implies, true_implies, implies_true, imp_false, not_true, not_false_eq_true, decide_eq_true_eq, decide_eq_false_iff_not, Bool.not_eq_true', Bool.not_eq_false', Bool.and_eq_true, Classical.not_not, decide_true, decide_false, Bool.and_true, Bool.true_and, if_true, if_false, Ob_iff]
  refine ⟨fun h => by simp [greatB, h], fun h => by simp [greatB, h]⟩

theorem parts_known : Known Try.prog 9 partsC := by
  refine known1 (nt := 97) (An := fun _ => noAnn) (labs := []) (lit := false) (em := em_parts) sh_parts_le (by kernel_rfl) mixedT tyT_ok (.cons take_known (.cons round_known (.cons scale_known (.cons cmp_known (.cons low_known (.cons mode_known (.cons rate_known .nil))))))) Try.func9 (by kernel_rfl) (fun a => by kernel_rfl) (fun a => by rfl) (fun a ha => ?_)
  cases a
  refine Eq.mpr (vc_parts ()) ?_
  simp [in64, modeB, rateB]

theorem frounds_known : Known Try.prog 3 froundsC := by
  refine known1 (nt := 175) (An := fun (n, d, mode) => noAnn) (labs := []) (lit := false) (em := em_frounds) sh_frounds_le (by kernel_rfl) mixedT tyT_ok (.cons parts_known (.cons round_known (.cons great_known .nil))) Try.func3 (by kernel_rfl) (fun a => by obtain ⟨n, d, mode⟩ := a; kernel_rfl) (fun a => by obtain ⟨n, d, mode⟩ := a; rfl) (fun a ha => ?_)
  obtain ⟨n, d, mode⟩ := a
  replace ha : in64 n ∧ in64 d ∧ in64 mode := ha.out
  refine Eq.mpr (vc_frounds n d mode) ?_
  obtain ⟨hn, hd, hm⟩ := ha
  by_cases hB : roundB d mode = true
  · have hV : roundV n d mode = roundS n d mode := by simp [roundV, hB]
    have hE : rngE (roundB d mode) = 0 := by simp [rngE, hB]
    simp only [roundB, Bool.and_eq_true, decide_eq_true_eq, modeB_iff] at hB
    obtain ⟨r, f1, f2, f3, f4, f5, f6, f7, f8, f9, f10, f11⟩ := round_facts (n := n) hB.1 hB.2
    simp only [hV, hE]
    clear hV hE
    simp only [tmod_zero]
    by_cases hg : greatB n = false ∧ greatB d = false
    · simp only [hg.1, hg.2]
      have g1 : -2305843009213693952 ≤ n ∧ n ≤ 2305843009213693952 := by have := hg.1; simp [greatB] at this; omega
      have g2 : -2305843009213693952 ≤ d ∧ d ≤ 2305843009213693952 := by have := hg.2; simp [greatB] at this; omega
      generalize roundS n d mode = q at *
      generalize q * d = X at *
      obtain rfl : X = n - r := by omega
      have e1 : n - (n - r) = r := by omega
      simp only [wrapI (n := n - r) (by omega), e1, wrapI (n := r) (by omega), wrapI (n := 2 * r) (by omega), wrapI (n := 0 - d) (by omega)]
      clear hg
      simp only [eq_self, true_and, and_true, and_self, Bool.not_true, Bool.not_false, Bool.false_eq_true, Bool.true_eq_false, false_implies, true_implies, implies_true, imp_false, not_true, not_false_eq_true, decide_eq_true_eq, decide_eq_false_iff_not, Bool.not_eq_true', Bool.not_eq_false', Bool.and_eq_true, Classical.not_not, decide_true, decide_false, Bool.and_true, Bool.true_and, if_true, if_false, Ob_iff]
      simp only [beq_iff_eq, decide_eq_decide]
      clear f11 f1 e1
      refine ⟨⟨hn, hd⟩, ?_⟩
      repeat' first | exact trivial | with_reducible rfl | apply And.intro | apply Ob.mk | intro _
      all_goals omega
    · have hg' : greatB n = true ∨ (greatB n = false ∧ greatB d = true) := by
        cases h1 : greatB n with
        | true => exact .inl rfl
        | false =>
          cases h2 : greatB d with
          | true => exact .inr ⟨rfl, rfl⟩
          | false => exact absurd ⟨h1, h2⟩ hg
      rcases hg' with h | ⟨h, h'⟩
      · simp only [h]
        simp only [eq_self, true_and, and_true, and_self, Bool.not_true, Bool.not_false, Bool.false_eq_true, Bool.true_eq_false, false_implies, true_implies, implies_true, imp_false, not_true, not_false_eq_true, decide_eq_true_eq, decide_eq_false_iff_not, Bool.not_eq_true', Bool.not_eq_false', Bool.and_eq_true, Classical.not_not, decide_true, decide_false, Bool.and_true, Bool.true_and, if_true, if_false, Ob_iff]
        refine ⟨⟨hn, hd⟩, ?_⟩
        repeat' first | exact trivial | with_reducible rfl | apply And.intro | apply Ob.mk | intro _
        all_goals omega
      · simp only [h, h']
        simp only [eq_self, true_and, and_true, and_self, Bool.not_true, Bool.not_false, Bool.false_eq_true, Bool.true_eq_false, false_implies, true_implies, implies_true, imp_false, not_true, not_false_eq_true, decide_eq_true_eq, decide_eq_false_iff_not, Bool.not_eq_true', Bool.not_eq_false', Bool.and_eq_true, Classical.not_not, decide_true, decide_false, Bool.and_true, Bool.true_and, if_true, if_false, Ob_iff]
        refine ⟨⟨hn, hd⟩, ?_⟩
        repeat' first | exact trivial | with_reducible rfl | apply And.intro | apply Ob.mk | intro _
        all_goals omega
  · have hV : roundV n d mode = 0 := by simp [roundV, hB]
    have hE : rngE (roundB d mode) = 1 := by simp [rngE, hB]
    have hc : ¬ (0 < d ∧ 1 ≤ mode ∧ mode ≤ 6) := fun h => hB (by simp only [roundB, Bool.and_eq_true, decide_eq_true_eq, modeB_iff]; exact h)
    simp only [hV, hE]
    simp only [eq_self, true_and, and_true, and_self, Bool.not_true, Bool.not_false, Bool.false_eq_true, Bool.true_eq_false, false_implies, true_implies, implies_true, imp_false, not_true, not_false_eq_true, decide_eq_true_eq, decide_eq_false_iff_not, Bool.not_eq_true', Bool.not_eq_false', Bool.and_eq_true, Classical.not_not, decide_true, decide_false, Bool.and_true, Bool.true_and, if_true, if_false, Ob_iff]
    refine ⟨⟨hn, hd⟩, ?_⟩
    intro h1 h2 h3
    exfalso; omega

theorem fmodes_known : Known Try.prog 4 fmodesC := by
  refine known1 (nt := 94) (An := fun (n, d) => (fmodes_an n d)) (labs := []) (lit := false) (em := em_fmodes) sh_fmodes_le (by kernel_rfl) mixedT tyT_ok (.cons parts_known (.cons round_known .nil)) Try.func4 (by kernel_rfl) (fun a => by obtain ⟨n, d⟩ := a; kernel_rfl) (fun a => by obtain ⟨n, d⟩ := a; rfl) (fun a ha => ?_)
  obtain ⟨n, d⟩ := a
  replace ha : in64 n ∧ in64 d := ha.out
  refine Eq.mpr (vc_fmodes n d) ?_
  obtain ⟨hn, hd⟩ := ha
  simp only [eq_self, true_and, and_true, and_self, Bool.not_true, Bool.not_false, Bool.false_eq_true, Bool.true_eq_false, false_implies, true_implies, implies_true, imp_false, not_true, not_false_eq_true, decide_eq_true_eq, decide_eq_false_iff_not, Bool.not_eq_true', Bool.not_eq_false', Bool.and_eq_true, Classical.not_not, decide_true, decide_false, Bool.and_true, Bool.true_and, if_true, if_false, Ob_iff]
  intro h1 h2
  have hn' := hn.1
  have hn2 := hn.2
  have w0 : IntKind.i64.wrap (0 - n) = -n := by rw [wrapI (by omega)]; omega
  have hin : in64 (-n) := ⟨by omega, by omega⟩
  have hv : ∀ x k : Int, 1 ≤ k → k ≤ 6 → roundV x d k = roundS x d k ∧ rngE (roundB d k) = 0 := fun x k a b => by
    have : roundB d k = true := by simp only [roundB, Bool.and_eq_true, decide_eq_true_eq, modeB_iff]; omega
    simp [roundV, rngE, this]
  have hq := ediv_in hin (d := d) (by omega)
  have hup := neg_ediv_up (n := n) (d := d) (by omega)
  rw [w0, (hv n 1 (by omega) (by omega)).1, (hv n 2 (by omega) (by omega)).1, (hv (-n) 1 (by omega) (by omega)).1]
  refine ⟨⟨hn, hd⟩, ⟨hn, hd⟩, ⟨hin, hd⟩, ⟨1, rfl, rfl, rfl, rfl, by omega, by omega, by omega, hn, hd, hin⟩, fun k ⟨k1, k2, k3, _⟩ => ⟨fun h => ?_, fun h => ?_⟩⟩
  · rw [(hv n k k1 h).1, (hv n k k1 h).2]
    have hf := round_facts (n := n) (d := d) (m := k) k3 (by omega)
    obtain ⟨r, f1, f2, f3, f4, f5, f6, f7, f8, f9, f10, f11⟩ := hf
    rw [round_one, round_two, wrapI (n := k + 1) (by omega)]
    have nx : ∃ x3 : Int, k + 1 = x3 ∧ (1 ≤ x3 ∧ x3 ≤ 7 ∧ 0 < d ∧ in64 n ∧ in64 d ∧ in64 (-n)) ∧ (7 - x3).toNat < (7 - k).toNat := ⟨k + 1, rfl, ⟨by omega, by omega, k3, hn, hd, hin⟩, by omega⟩
    refine ⟨⟨hn, hd⟩, rfl, fun _ => ⟨fun h3 => ⟨?_, fun _ => nx⟩, fun _ => nx⟩⟩
    rcases f11 with ⟨q1, q2⟩ | ⟨q1, q2, q3⟩
    · exact absurd q1 h3
    · rw [if_pos q3]; exact q1
  · have e2 : roundS (-n) d 1 = - roundS n d 2 := by rw [round_one]; exact hup
    have hr := hq
    rw [hup] at hr
    have e3 : IntKind.i64.wrap (0 - roundS n d 2) = - roundS n d 2 := by rw [Int.zero_sub, wrapI hr]
    have hz : (n.tmod d = 0 ↔ roundS n d 1 = roundS n d 2) ∧ (roundS n d 1 = roundS n d 2 ∨ roundS n d 2 = roundS n d 1 + 1) := by
      rw [tmod_zero, round_one, round_two]
      have h1 := Int.emod_nonneg n (b := d) (by omega)
      split <;> omega
    refine ⟨fun _ => ⟨by omega, fun _ h4 => ⟨fun h5 => ?_, by omega⟩, ?_⟩, by rw [e2, e3]⟩
    · rw [wrapI (by omega)]; omega
    · simp only [beq_eq_false_iff_ne, ne_eq, decide_eq_decide, Classical.not_not]
      exact hz.1

theorem fparts_known : Known Try.prog 8 fpartsC := by
  refine known1 (nt := 148) (An := fun (x, rate, mode) => noAnn) (labs := []) (lit := false) (em := em_fparts) sh_fparts_le (by kernel_rfl) mixedT tyT_ok (.cons parts_known (.cons part_known (.cons take_known (.cons fof_known (.cons eadd_known (.cons exact_known .nil)))))) Try.func8 (by kernel_rfl) (fun a => by obtain ⟨x, rate, mode⟩ := a; kernel_rfl) (fun a => by obtain ⟨x, rate, mode⟩ := a; rfl) (fun a ha => ?_)
  obtain ⟨x, rate, mode⟩ := a
  replace ha : in64 x ∧ in64 rate ∧ in64 mode := ha.out
  refine Eq.mpr (vc_fparts x rate mode) ?_
  obtain ⟨hx, hr, hm⟩ := ha
  by_cases h1 : rightB x = true
  · have x1 := rightB_iff.1 h1
    by_cases h2 : rateB rate = true
    · have r1 := rateB_iff.1 h2
      have h3 : rateB (10000 - rate) = true := rateB_iff.2 (by omega)
      have hp := mul_in x1 r1
      have hp2 := mul_in x1 (r := 10000 - rate) (by omega)
      have e0 : x * (10000 - rate) = x * 10000 - x * rate := by rw [Int.mul_sub]
      have pE1 : partE x rate = 0 := by simp [partE, h1, h2]
      have pV1 : partV x rate = x * rate := by simp [partV, pE1]
      have pE2 : partE x (10000 - rate) = 0 := by simp [partE, h1, h3]
      have pV2 : partV x (10000 - rate) = x * 10000 - x * rate := by simp only [partV, pE2, if_true, e0]
      have oE : ofE x = 0 := by simp [ofE, chkE, h1]
      have oV : ofV x = x * 10000 := by simp [ofV, h1]
      have tE : takeE x rate mode = rngE (modeB mode) := by simp [takeE, pE1]
      have tV : takeV x rate mode = if modeB mode = true then roundS (x * rate) 10000 mode else 0 := by
        unfold takeV; rw [tE]; cases modeB mode <;> simp [rngE]
      rw [e0] at hp2
      simp only [wrapI (n := 10000 - rate) (by omega), wrapI (n := x * rate) (by omega), pE1, pE2, pV1, pV2, oE, oV, tE, tV]
      generalize hP : x * rate = p at *
      have q1 : exactB p = true := exactB_iff.2 (by omega)
      have q2 : exactB (x * 10000 - p) = true := exactB_iff.2 (by omega)
      have q3 : exactB (x * 10000) = true := exactB_iff.2 (by omega)
      have s1 : exSum [.int .i64 p, .int .i64 (x * 10000 - p)] 1 = p := by simp [exSum, ints, elCell, SV.cells, SV.toInt]
      have s2 : exSum [.int .i64 p, .int .i64 (x * 10000 - p)] 2 = x * 10000 := by simp [exSum, ints, elCell, SV.cells, SV.toInt]; omega
      have ok : exOk [.int .i64 p, .int .i64 (x * 10000 - p)] 2 = true := by
        simp only [exOk, s1, s2, q1, q3, Bool.true_and, Bool.and_true]
        simp [ints, elCell, SV.cells, SV.toInt, q1, q2]
      have ev : eaddV [.int .i64 p, .int .i64 (x * 10000 - p)] = x * 10000 := by
        unfold eaddV
        simp only [List.length_cons, List.length_nil]
        rw [if_pos ok, s2]
      simp only [ok, ev, chkE, q1, if_true]
      have w0 : IntKind.i64.wrap 0 = 0 := by decide
      simp only [Int.add_zero, w0]
      cases hmd : modeB mode with
      | false =>
        have : ¬ (1 ≤ mode ∧ mode ≤ 6) := fun h => by rw [modeB_iff.2 h] at hmd; cases hmd
        simp only [rngE]
        simp only [eq_self, true_and, and_true, and_self, Bool.not_true, Bool.not_false, Bool.false_eq_true, Bool.true_eq_false, false_implies, true_implies, implies_true, imp_false, not_true, not_false_eq_true, decide_eq_true_eq, decide_eq_false_iff_not, Bool.not_eq_true', Bool.not_eq_false', Bool.and_eq_true, Classical.not_not, decide_true, decide_false, Bool.and_true, Bool.true_and, if_true, if_false, Ob_iff]
        repeat' first | exact trivial | with_reducible rfl | apply And.intro | apply Ob.mk | intro _
        all_goals omega
      | true =>
        have m1 := modeB_iff.1 hmd
        obtain ⟨r, f1, f2, f3, _⟩ := round_facts (n := p) (d := 10000) (m := mode) (by omega) m1
        generalize roundS p 10000 mode = c at *
        simp only [rngE]
        simp only [eq_self, true_and, and_true, and_self, Bool.not_true, Bool.not_false, Bool.false_eq_true, Bool.true_eq_false, false_implies, true_implies, implies_true, imp_false, not_true, not_false_eq_true, decide_eq_true_eq, decide_eq_false_iff_not, Bool.not_eq_true', Bool.not_eq_false', Bool.and_eq_true, Classical.not_not, decide_true, decide_false, Bool.and_true, Bool.true_and, if_true, if_false, Ob_iff]
        simp only [wrapI (n := 10000 * c) (by omega), wrapI (n := p - 10000 * c) (by omega)]
        repeat' first | exact trivial | with_reducible rfl | apply And.intro | apply Ob.mk | intro _
        all_goals omega
    · have r1 : ¬ (0 ≤ rate ∧ rate ≤ 10000) := fun h => h2 (rateB_iff.2 h)
      have pE1 : partE x rate = 50 := by simp [partE, h1, h2]
      have tE : takeE x rate mode = 50 := by simp [takeE, pE1]
      simp only [pE1, tE, partV, takeV]
      simp only [eq_self, true_and, and_true, and_self, Bool.not_true, Bool.not_false, Bool.false_eq_true, Bool.true_eq_false, false_implies, true_implies, implies_true, imp_false, not_true, not_false_eq_true, decide_eq_true_eq, decide_eq_false_iff_not, Bool.not_eq_true', Bool.not_eq_false', Bool.and_eq_true, Classical.not_not, decide_true, decide_false, Bool.and_true, Bool.true_and, if_true, if_false, Ob_iff]
      repeat' first | exact trivial | with_reducible rfl | apply And.intro | apply Ob.mk | intro _
      all_goals omega
  · have x1 := rightB_f h1
    have pE1 : partE x rate = 10 := by simp [partE, h1]
    have tE : takeE x rate mode = 10 := by simp [takeE, pE1]
    simp only [pE1, tE, partV, takeV]
    simp only [eq_self, true_and, and_true, and_self, Bool.not_true, Bool.not_false, Bool.false_eq_true, Bool.true_eq_false, false_implies, true_implies, implies_true, imp_false, not_true, not_false_eq_true, decide_eq_true_eq, decide_eq_false_iff_not, Bool.not_eq_true', Bool.not_eq_false', Bool.and_eq_true, Classical.not_not, decide_true, decide_false, Bool.and_true, Bool.true_and, if_true, if_false, Ob_iff]
    repeat' first | exact trivial | with_reducible rfl | apply And.intro | apply Ob.mk | intro _
    all_goals omega

theorem fscales_known : Known Try.prog 5 fscalesC := by
  refine known1 (nt := 99) (An := fun (x, n, d) => noAnn) (labs := []) (lit := false) (em := em_fscales) sh_fscales_le (by kernel_rfl) mixedT tyT_ok (.cons parts_known (.cons scale_known (.cons round_known .nil))) Try.func5 (by kernel_rfl) (fun a => by obtain ⟨x, n, d⟩ := a; kernel_rfl) (fun a => by obtain ⟨x, n, d⟩ := a; rfl) (fun a ha => ?_)
  obtain ⟨x, n, d⟩ := a
  replace ha : in64 x ∧ in64 n ∧ in64 d := ha.out
  refine Eq.mpr (vc_fscales x n d) ?_
  obtain ⟨hx, hn, hd⟩ := ha
  by_cases h1 : rightB x = true
  · have x1 := rightB_iff.1 h1
    by_cases h2 : scaleB n d = true
    · have n1 := h2
      simp only [scaleB, Bool.and_eq_true, decide_eq_true_eq] at n1
      obtain ⟨⟨⟨h3, h4⟩, h5⟩, h6⟩ := n1
      have m1 := Int.mul_le_mul_of_nonneg_right (a := x) (b := 100000000000) (c := n) x1.2 h3
      have m2 := Int.mul_le_mul_of_nonneg_right (a := -100000000000) (b := x) (c := n) x1.1 h3
      have hi : in64 (x * n) := ⟨by omega, by omega⟩
      have hV : roundV (x * n) d 1 = x * n / d := by
        have : roundB d 1 = true := by simp [roundB, h4]; decide
        simp only [roundV, this, if_true, round_one]
      have e1 := Int.emod_nonneg (x * n) (b := d) (by omega)
      have e2 := Int.emod_lt_of_pos (x * n) h4
      have e3 := Int.ediv_mul_add_emod (x * n) d
      have hE : scaleE x n d = if rightB (x * n / d) = true then 0 else 10 := by simp [scaleE, h1, h2]
      have hSV : scaleV x n d = if rightB (x * n / d) = true then x * n / d else 0 := by
        unfold scaleV; rw [hE]; split <;> simp
      simp only [wrapI hi, hV, hE, hSV]
      generalize x * n = X at *
      generalize X / d = Q at *
      by_cases hq : rightB Q = true
      · have q1 := rightB_iff.1 hq
        generalize hY : Q * d = Y at *
        simp only [hq, if_true, hY]
        simp only [wrapI (n := Y) (by omega), wrapI (n := X - Y) (by omega)]
        simp only [eq_self, true_and, and_true, and_self, Bool.not_true, Bool.not_false, Bool.false_eq_true, Bool.true_eq_false, false_implies, true_implies, implies_true, imp_false, not_true, not_false_eq_true, decide_eq_true_eq, decide_eq_false_iff_not, Bool.not_eq_true', Bool.not_eq_false', Bool.and_eq_true, Classical.not_not, decide_true, decide_false, Bool.and_true, Bool.true_and, if_true, if_false, Ob_iff]
        refine ⟨⟨hn, hd⟩, ?_⟩
        simp only [hi, hd, true_and]
        repeat' first | exact trivial | with_reducible rfl | apply And.intro | apply Ob.mk | intro _
        all_goals omega
      · have q1 := rightB_f hq
        simp only [hq, if_false, Bool.false_eq_true]
        simp only [eq_self, true_and, and_true, and_self, Bool.not_true, Bool.not_false, Bool.false_eq_true, Bool.true_eq_false, false_implies, true_implies, implies_true, imp_false, not_true, not_false_eq_true, decide_eq_true_eq, decide_eq_false_iff_not, Bool.not_eq_true', Bool.not_eq_false', Bool.and_eq_true, Classical.not_not, decide_true, decide_false, Bool.and_true, Bool.true_and, if_true, if_false, Ob_iff]
        refine ⟨⟨hn, hd⟩, ?_⟩
        simp only [hi, hd, true_and]
        repeat' first | exact trivial | with_reducible rfl | apply And.intro | apply Ob.mk | intro _
        all_goals omega
    · have n1 := h2
      simp only [scaleB, Bool.and_eq_true, decide_eq_true_eq] at n1
      have hE : scaleE x n d = 1 := by simp [scaleE, h1, h2]
      have hV : scaleV x n d = 0 := by simp [scaleV, hE]
      simp only [hE, hV]
      simp only [eq_self, true_and, and_true, and_self, Bool.not_true, Bool.not_false, Bool.false_eq_true, Bool.true_eq_false, false_implies, true_implies, implies_true, imp_false, not_true, not_false_eq_true, decide_eq_true_eq, decide_eq_false_iff_not, Bool.not_eq_true', Bool.not_eq_false', Bool.and_eq_true, Classical.not_not, decide_true, decide_false, Bool.and_true, Bool.true_and, if_true, if_false, Ob_iff]
      refine ⟨⟨hn, hd⟩, ?_⟩
      simp only [hd, and_true]
      repeat' first | exact trivial | with_reducible rfl | apply And.intro | apply Ob.mk | intro _
      all_goals first | omega | (exfalso; omega)
  · have x1 := rightB_f h1
    have hE : scaleE x n d = 10 := by simp [scaleE, h1]
    have hV : scaleV x n d = 0 := by simp [scaleV, hE]
    simp only [hE, hV]
    simp only [eq_self, true_and, and_true, and_self, Bool.not_true, Bool.not_false, Bool.false_eq_true, Bool.true_eq_false, false_implies, true_implies, implies_true, imp_false, not_true, not_false_eq_true, decide_eq_true_eq, decide_eq_false_iff_not, Bool.not_eq_true', Bool.not_eq_false', Bool.and_eq_true, Classical.not_not, decide_true, decide_false, Bool.and_true, Bool.true_and, if_true, if_false, Ob_iff]
    refine ⟨⟨hn, hd⟩, ?_⟩
    simp only [hd, and_true]
    repeat' first | exact trivial | with_reducible rfl | apply And.intro | apply Ob.mk | intro _
    all_goals first | omega | (exfalso; omega)

theorem cmp_at {n d m c : Int} (hd : 0 < d) (hc : 0 < c) : cmpV n d m c = cmpS (n * c) (m * d) ∧ rngE (posB d c) = 0 := by simp [cmpV, posB, rngE, hd, hc]
/-- The lowest terms. -/
theorem low_at {n d : Int} (hn : in64 n) (hd : in64 d) (h : 0 < d) : 0 < lowD n d ∧ in64 (lowN n d) ∧ in64 (lowD n d) ∧ ∃ g : Int, 0 < g ∧ n = lowN n d * g ∧ d = lowD n d * g ∧ Int.gcd (lowN n d) (lowD n d) = 1 ∧ lowE d = 0 := by
  have g1 : ((Int.gcd n d : Nat) : Int) ∣ n := Int.gcd_dvd_left ..
  have g2 : ((Int.gcd n d : Nat) : Int) ∣ d := Int.gcd_dvd_right ..
  have g3 : 0 < Int.gcd n d := Nat.pos_of_ne_zero fun h => by
    rw [Int.gcd_eq_zero_iff] at h
    omega
  have e1 : lowN n d = n / (Int.gcd n d : Int) := by simp [lowN, h]
  have e2 : lowD n d = d / (Int.gcd n d : Int) := by simp [lowD, h]
  have e3 := Int.ediv_mul_cancel g1
  have e4 := Int.ediv_mul_cancel g2
  rw [e1, e2]
  refine ⟨?_, ediv_in hn (by omega), ediv_in hd (by omega), (Int.gcd n d : Int), by omega, e3.symm, e4.symm, Int.gcd_ediv_gcd_ediv_gcd g3, by simp [lowE, h]⟩
  rcases Int.lt_or_le 0 (d / (Int.gcd n d : Int)) with hp | hp
  · exact hp
  · have := Int.mul_nonpos_of_nonpos_of_nonneg hp (show 0 ≤ (Int.gcd n d : Int) by omega)
    omega
theorem dvd_of_gcd {k m n : Int} (h : Int.gcd k m = 1) (hd : k ∣ m * n) : k ∣ n := by
  rw [← Int.natAbs_dvd_natAbs] at hd ⊢
  rw [Int.natAbs_mul] at hd
  exact Nat.Coprime.dvd_of_dvd_mul_left h hd
/-- Two fractions are the same just if their lowest terms are. -/
theorem low_same {a a1 b b1 : Int} (ha : in64 a) (ha1 : in64 a1) (hb : in64 b) (hb1 : in64 b1) (h1 : 0 < a1) (h2 : 0 < b1) : a * b1 = b * a1 ↔ (lowN a a1 = lowN b b1 ∧ lowD a a1 = lowD b b1) := by
  obtain ⟨p1, _, _, g, g1, g2, g3, g4, _⟩ := low_at ha ha1 h1
  obtain ⟨q1, _, _, k, k1, k2, k3, k4, _⟩ := low_at hb hb1 h2
  generalize lowN a a1 = N at *
  generalize lowD a a1 = D at *
  generalize lowN b b1 = M at *
  generalize lowD b b1 = C at *
  subst g2 g3 k2 k3
  have e : N * g * (C * k) = M * k * (D * g) ↔ N * C = M * D := by
    have e1 : N * g * (C * k) = N * C * (g * k) := by rw [Int.mul_assoc, Int.mul_left_comm g, ← Int.mul_assoc]
    have e2 : M * k * (D * g) = M * D * (g * k) := by rw [Int.mul_assoc, Int.mul_left_comm k, ← Int.mul_assoc, Int.mul_comm k g]
    rw [e1, e2]
    have : g * k ≠ 0 := Int.ne_of_gt (Int.mul_pos g1 k1)
    exact ⟨fun h => Int.eq_of_mul_eq_mul_right this h, fun h => by rw [h]⟩
  rw [e]
  refine ⟨fun h => ?_, fun ⟨h3, h4⟩ => by rw [h3, h4]⟩
  have d1 : D ∣ C := dvd_of_gcd (m := N) (by rw [Int.gcd_comm]; exact g4) (by rw [h]; exact Int.dvd_mul_left ..)
  have d2 : C ∣ D := dvd_of_gcd (m := M) (by rw [Int.gcd_comm]; exact k4) (by rw [← h]; exact Int.dvd_mul_left ..)
  have hDC : D = C := Int.le_antisymm (Int.le_of_dvd q1 d1) (Int.le_of_dvd p1 d2)
  subst hDC
  exact ⟨Int.eq_of_mul_eq_mul_right (Int.ne_of_gt p1) h, rfl⟩
theorem cmpS_facts (x y : Int) : (cmpS x y = -1 ∧ x < y) ∨ (cmpS x y = 0 ∧ x = y) ∨ (cmpS x y = 1 ∧ y < x) := by
  unfold cmpS
  split
  · exact .inl ⟨rfl, by assumption⟩
  · split
    · exact .inr (.inr ⟨rfl, by assumption⟩)
    · exact .inr (.inl ⟨rfl, by omega⟩)
theorem less_trans {a a1 b b1 c c1 : Int} (h1 : 0 < a1) (h2 : 0 < b1) (h3 : 0 < c1) (h : a * b1 < b * a1) (h' : b * c1 < c * b1) : a * c1 < c * a1 := by
  have e1 := Int.mul_lt_mul_of_pos_right h h3
  have e2 := Int.mul_lt_mul_of_pos_right h' h1
  rw [Int.mul_right_comm b c1 a1] at e2
  have e3 : a * b1 * c1 < c * b1 * a1 := by omega
  rw [Int.mul_right_comm a b1 c1, Int.mul_right_comm c b1 a1] at e3
  exact Int.lt_of_mul_lt_mul_right e3 (by omega)

theorem fcompares_known : Known Try.prog 6 fcomparesC := by
  refine known1 (nt := 241) (An := fun (a, a1, b, b1, c, c1) => noAnn) (labs := []) (lit := true) (em := em_fcompares) sh_fcompares_le (by kernel_rfl) mixedT tyT_ok (.cons parts_known (.cons cmp_known (.cons low_known (.cons great_known .nil)))) Try.func6 (by kernel_rfl) (fun a => by obtain ⟨a, a1, b, b1, c, c1⟩ := a; kernel_rfl) (fun a => by obtain ⟨a, a1, b, b1, c, c1⟩ := a; rfl) (fun a ha => ?_)
  obtain ⟨a, a1, b, b1, c, c1⟩ := a
  replace ha : in64 a ∧ in64 a1 ∧ in64 b ∧ in64 b1 ∧ in64 c ∧ in64 c1 := ha.out
  refine Eq.mpr (vc_fcompares a a1 b b1 c c1) ?_
  obtain ⟨⟨p1, p2⟩, ⟨p3, p4⟩, p5, p6⟩ := (show (in64 a ∧ in64 a1) ∧ (in64 b ∧ in64 b1) ∧ in64 c ∧ in64 c1 from ⟨⟨ha.1, ha.2.1⟩, ⟨ha.2.2.1, ha.2.2.2.1⟩, ha.2.2.2.2.1, ha.2.2.2.2.2⟩)
  by_cases h1 : 0 < a1
  · by_cases h2 : 0 < b1
    · obtain ⟨c1E, c1R⟩ := cmp_at (n := a) (m := b) h1 h2
      obtain ⟨c2E, c2R⟩ := cmp_at (n := b) (m := a) h2 h1
      obtain ⟨l1, l2, l3, g, l4, l5, l6, l7, l8⟩ := low_at p1 p2 h1
      obtain ⟨m1, m2, m3, k, m4, m5, m6, m7, m8⟩ := low_at p3 p4 h2
      have same := low_same p1 p2 p3 p4 h1 h2
      have c3E : cmpV (lowN a a1) (lowD a a1) a a1 = 0 := by
        rw [(cmp_at l1 h1).1]
        have key : ∀ N D : Int, a = N * g → a1 = D * g → N * a1 = a * D := fun N D e1 e2 => by
          rw [e1, e2, Int.mul_right_comm, Int.mul_assoc]
        rw [key _ _ l5 l6]
        unfold cmpS
        rw [if_neg (by omega), if_neg (by omega)]
      have f1 := cmpS_facts (a * b1) (b * a1)
      have f2 := cmpS_facts (b * a1) (a * b1)
      simp only [c1E, c1R, c2E, c2R, l8, m8, c3E, p1, p2, p3, p4, p5, p6, l2, l3]
      have w0 : IntKind.i64.wrap (IntKind.i64.wrap (IntKind.i64.wrap (0 + 0) + 0) + 0) = 0 := by decide
      simp only [w0]
      have tr := less_trans (a := a) (a1 := a1) (b := b) (b1 := b1) (c := c) (c1 := c1) h1 h2
      have c4 := fun (h : 0 < c1) => cmp_at (n := b) (m := c) h2 h
      have c5 := fun (h : 0 < c1) => cmp_at (n := a) (m := c) h1 h
      have bp : ∀ x y : Int, -1099511627776 ≤ x → x ≤ 1099511627776 → 0 < y → y ≤ 1048576 → IntKind.i64.wrap (x * y) = x * y := fun x y b1 b2 b3 b4 => by
        have t1 := Int.mul_le_mul_of_nonneg_right (a := x) (b := 1099511627776) (c := y) b2 (by omega)
        have t2 := Int.mul_le_mul_of_nonneg_right (a := -1099511627776) (b := x) (c := y) b1 (by omega)
        exact wrapI (by omega)
      have bpa := bp a b1
      have bpb := bp b a1
      clear ha l5 l6 l7 m5 m6 m7 c1E c1R c2E c2R l8 m8 c3E w0 bp l2 l3 m2 m3 l4 m4 p1 p2 p3 p4 p5 p6
      generalize hX : a * b1 = X at *
      generalize hY : b * a1 = Y at *
      simp only [Int.reduceLE, Int.reduceLT, Int.reduceEq, Int.reduceNe, Nat.reduceLeDiff, Nat.reduceEqDiff, beq_eq_false_iff_ne, beq_iff_eq, decide_eq_decide, ne_eq, eq_self, true_and, and_true, and_self, and_false, false_and, Bool.not_true, Bool.not_false, Bool.false_eq_true, Bool.true_eq_false, false_implies, true_implies, implies_true, imp_false, not_true, not_false_eq_true, decide_eq_true_eq, decide_eq_false_iff_not, Bool.not_eq_true', Bool.not_eq_false', Bool.and_eq_true, Classical.not_not, decide_true, decide_false, Bool.and_true, Bool.true_and, if_true, if_false, Ob_iff]
      have fin : rngE (posB b1 c1) = 0 → cmpS X Y < 0 → cmpV b b1 c c1 < 0 → cmpV a a1 c c1 < 0 := by
        intro q1 q2 q3
        have hc1 : 0 < c1 := by
          apply Classical.byContradiction
          intro hc
          have : posB b1 c1 = false := by simp [posB]; omega
          simp [rngE, this] at q1
        rw [(c4 hc1).1] at q3
        rw [(c5 hc1).1]
        have t1 := cmpS_facts (b * c1) (c * b1)
        have t2 := cmpS_facts (a * c1) (c * a1)
        have t3 := tr hc1 (by omega) (by omega)
        omega
      clear tr c4 c5
      generalize cmpV b b1 c c1 = z at *
      generalize cmpV a a1 c c1 = w at *
      simp only [wrapI (n := 0 - cmpS Y X) (by omega)]
      repeat' first | exact trivial | with_reducible rfl | apply And.intro | apply Ob.mk | intro _
      all_goals first
        | omega
        | (apply fin <;> assumption)
        | (rw [bpa (by omega) (by omega) (by omega) (by omega), bpb (by omega) (by omega) (by omega) (by omega)]; omega)
    · have e : posB a1 b1 = false := by simp [posB]; omega
      have e1 : rngE (posB a1 b1) = 1 := by simp [rngE, e]
      have e2 : cmpV a a1 b b1 = 0 := by simp [cmpV, e]
      simp only [e1, e2, p1, p2, p3, p4]
      simp only [Int.reduceLE, Int.reduceLT, Int.reduceEq, Int.reduceNe, Nat.reduceLeDiff, Nat.reduceEqDiff, beq_eq_false_iff_ne, beq_iff_eq, decide_eq_decide, ne_eq, eq_self, true_and, and_true, and_self, and_false, false_and, Bool.not_true, Bool.not_false, Bool.false_eq_true, Bool.true_eq_false, false_implies, true_implies, implies_true, imp_false, not_true, not_false_eq_true, decide_eq_true_eq, decide_eq_false_iff_not, Bool.not_eq_true', Bool.not_eq_false', Bool.and_eq_true, Classical.not_not, decide_true, decide_false, Bool.and_true, Bool.true_and, if_true, if_false, Ob_iff]
      intro h3 h4
      exfalso; omega
  · have e : posB a1 b1 = false := by simp [posB]; omega
    have e1 : rngE (posB a1 b1) = 1 := by simp [rngE, e]
    have e2 : cmpV a a1 b b1 = 0 := by simp [cmpV, e]
    simp only [e1, e2, p1, p2, p3, p4]
    simp only [Int.reduceLE, Int.reduceLT, Int.reduceEq, Int.reduceNe, Nat.reduceLeDiff, Nat.reduceEqDiff, beq_eq_false_iff_ne, beq_iff_eq, decide_eq_decide, ne_eq, eq_self, true_and, and_true, and_self, and_false, false_and, Bool.not_true, Bool.not_false, Bool.false_eq_true, Bool.true_eq_false, false_implies, true_implies, implies_true, imp_false, not_true, not_false_eq_true, decide_eq_true_eq, decide_eq_false_iff_not, Bool.not_eq_true', Bool.not_eq_false', Bool.and_eq_true, Classical.not_not, decide_true, decide_false, Bool.and_true, Bool.true_and, if_true, if_false, Ob_iff]
    intro h3 h4
    exfalso; omega

end Go.Rx
