/- A law's row whose package-level variables are laid: as law_lifted, with what the row's condition tells of each memory. -/
import Derived.Test.YtcehjhdgdgkkgaaDoorPow
import Derived.Handed
import Derived.LaidLaws
import Derived.LaidMore
import Derived.LaidHandle
import Derived.Stop.Joined
import Derived.MakeChecks
namespace Go.Rx
open Go.ChangeShapes Go.WideShapes Go.ChangeAt Go.RowKit

theorem laid_tail {P : Program} {x : String × DataW Unit} {r : List (String × DataW Unit)} {w : World} (h : laidMet P (x :: r) w) : laidMet P r w := by
  obtain ⟨ps, hv, hnd, hrows⟩ := h
  obtain ⟨n, d⟩ := x
  obtain ⟨g, t, cs, fuel, p, q, _, _, _, _, hq, rfl⟩ := hv
  exact ⟨q, hq, List.Nodup.sublist (List.sublist_append_right _ _) hnd, fun b off hm => hrows b off (List.mem_append_right _ hm)⟩

theorem law_lifted_laid {H : Type} {enc : TypeId × Value → H} {a : Assume} {C : Checked} {os : Os} {f : FuncId} {fn : Func} {s : ChangeSpec} {conds : List PathCond} {tks : List (Bool × List CK)} [hL : Laid C.prog] {L : List (String × DataW Unit)} (hld : ∀ w, laidMetH C.prog L w → hL.ok w) (n : Nat) (rt : TypeId)
    (own : ownKnob C.prog.godebug = none) (started : os.Started) (noInit : C.prog.inits.idxOf? f = none) (hfn : C.prog.funcs[f]? = some fn) (laid : laidOutB C.prog = true)
    (hks : argsB C.prog n fn.params.toList tks = true) (hres : fn.resultTypes = #[rt]) (hrt : C.prog.underlying rt = some .bool) (hvars : s.vars = [])
    (hspec : ∀ ds : List (DataW H), ds.length = fn.params.toList.length → (s.fn H ds).results = [.lit (.bool true)] ∧ (s.fn H ds).args = ds ∧ (s.fn H ds).vars = [])
    (witness : ∃ (w : World) (tape : Tape) (i : Input), w.os = os ∧ (w.forCall tape i).Shaped C.prog ∧ i.vars = [] ∧ Input.okWide C.prog (w.forCall tape i) .any w.heap.size f i ∧
      ((s.pre enc C.prog fn conds false (w.forCall tape i).memory i.args ∧ laidMetH C.prog L (w.forCall tape i).memory) ∧ sizedMet enc C.prog fn (OpenSpec.ofChange s) false (w.forCall tape i).memory i.args) ∧ a.holds C.prog (lone (Frame.enter C.prog f i.args .normal) [] (w.forCall tape i)))
    (hok : ∀ us, argsWf tks us → FnOK C.prog f us (.bool true)) :
    ReturnsInHanded a C os f .any (fun w args => (s.pre enc C.prog fn conds false w args ∧ laidMetH C.prog L w) ∧ sizedMet enc C.prog fn (OpenSpec.ofChange s) false w args) (s.post enc C.prog fn false true false false) := by
  refine returnsInHanded_of_change_and (X := fun w _ => laidMetH C.prog L w) (fun _ _ _ hh h => h.of_heap hh) own started noInit hfn witness ?_
  intro W base args ds gs before hval hW hcnd hsz hX _
  have hW' := hW
  obtain ⟨p, q, hA, hV, rfl, hfz, hnd⟩ := hW
  rw [hvars] at hV
  obtain ⟨rfl, rfl⟩ := trodVars_none hV
  have hlt : ∀ x ∈ p, x.block < W.heap.size := fun x hx => hW'.lt x (by simp [hx])
  have hvt : s.plain.varTypes C.prog = [] := by
    have : s.plain.vars = [] := hvars
    unfold DataSpec.varTypes
    rw [this]; rfl
  rw [hvt, List.append_nil, List.append_nil] at hsz
  obtain ⟨us, h1, h2, h2b, h3⟩ := open_args fn.params.toList tks args.toList ds p hks (fun j t v hj hj' => hval j t v (by simpa using hj) (by simpa using hj')) hA (fun m hm => by simpa using List.all_eq_true.1 hsz m hm)
  refine (hok us h1 (fun b => b < W.heap.size) W args (hld W hX) (fun b hb => hb) (by simpa using h2.symm) (fun i => ?_)).mono fun e W' ⟨x, I', he, hfr, _, _, hx⟩ => ?_
  · have := h3 i
    rw [Array.getD_eq_getD_getElem?]
    rw [List.getD_eq_getElem?_getD, Array.getElem?_toList] at this
    exact .inl this
  · subst he
    have hx : x = .bool true := by cases hx.conc rfl; rfl
    subst hx
    have bel := below_of hfr
    obtain ⟨e1, e2, e3⟩ := hspec (ds ++ []) (by simpa using h2b)
    simp only [List.append_nil] at hW' e1 e2 e3
    refine ⟨_, rfl, ds, [], p, [], p, [], hW', ?_, ?_, ?_, bel.frame _, fun h => by cases h⟩
    · rw [List.append_nil, e1, hres]
      exact trodAll_mk1 (shut_bool hrt true)
    · rw [List.append_nil, e2]
      exact trodAll_below laid bel _ _ _ _ _ hks hA hlt
    · rw [List.append_nil, e3, hvars]
      exact rfl
end Go.Rx

