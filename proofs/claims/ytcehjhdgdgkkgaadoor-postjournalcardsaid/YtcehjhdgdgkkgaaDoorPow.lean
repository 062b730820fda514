/- The table of powers of ten that the library keeps in a package-level variable: it stays. -/
import Derived.Test.YtcehjhdgdgkkgaaDoorJ3
import Derived.Lib.LaidTab
import Derived.Lib.ItoaNum
namespace Go.Rx

theorem tab_mono {P : Program} {name : String} {k : IntKind} {zs : List Int} {w w' : World} (_hs : w.heap.size ≤ w'.heap.size) (hb : ∀ k, k < w.heap.size → w'.heap[k]? = w.heap[k]?)
    (h : Lib.TabIs P w name k zs) : Lib.TabIs P w' name k zs := by
  unfold Lib.TabIs World.var? at h ⊢
  cases hg : P.globalNamed name with
  | none => rw [hg] at h; cases h
  | some g =>
    rw [hg] at h
    simp only [Option.bind_some] at h ⊢
    have hlt : g < w.heap.size := by
      apply Classical.byContradiction
      intro hc
      rw [Array.getElem?_eq_none (by omega)] at h
      cases h
    rw [hb g hlt]
    exact h

/-- Each memory in which the program runs holds it. -/
@[reducible] def Laid.pow (P : Program) : Laid P := ⟨fun w => Lib.TabIs P w "internal/strconv.uint64pow10" .u64 Lib.pow10Tab, fun hs hb h => tab_mono hs hb h⟩
end Go.Rx

