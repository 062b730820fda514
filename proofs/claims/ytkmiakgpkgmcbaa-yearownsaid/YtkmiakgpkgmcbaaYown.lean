/- A year: what is told of it is nobody's: the parts together. -/
import Derived.Test.YtkmiakgpkgmcbaaYl
namespace Go.Rx
open Go.Proofs Go.RowKit
set_option linter.unusedSimpArgs false
set_option linter.unusedVariables false
def sh_lown : List SV → Option (Int × (List SV))
  | [.int .i64 n, L'] => (match slOf [.int .i64, .int .i64, .int .i64, .int .i64, .int .i64, .int .i64, .sl [.int .i64, .int .i64], .int .i64, .sl [.int .i64, .int .i64, .int .i64, .int .i64, .int .i64, .int .i64], .int .i64] L' with | some L => some (n, L) | _ => none)
  | _ => none
def em_lown : Int × (List SV) → List SV := fun (n, L) => [.int .i64 n, .sl [.int .i64, .int .i64, .int .i64, .int .i64, .int .i64, .int .i64, .sl [.int .i64, .int .i64], .int .i64, .sl [.int .i64, .int .i64, .int .i64, .int .i64, .int .i64, .int .i64], .int .i64] L]
theorem sh_lown_le : ∀ us a, sh_lown us = some a → leL us (em_lown a) := by
  intro us a h
  unfold sh_lown at h
  split at h
  · split at h
    · cases h; exact (.cons (.refl _) (.cons (.sl (by assumption)) .nil))
    · cases h
  · cases h
def lownC : Con := conOf sh_lown (fun (n, L) => some (Ob (in64 n ∧ wfL [.int .i64, .int .i64, .int .i64, .int .i64, .int .i64, .int .i64, .sl [.int .i64, .int .i64], .int .i64, .sl [.int .i64, .int .i64, .int .i64, .int .i64, .int .i64, .int .i64], .int .i64] L))) (fun (n, L) => .bool true)
theorem yoCx_ok : CxOk Try.prog yoCx := cxOkI mixedT tyT_ok (.cons ykeeps_known (.cons lsmall_known (.cons clSO_known (.cons clTO_known (.cons yslips_known (.cons ytotals_known (.cons ycount_known (.cons yupto_known (.cons lsame_known (.cons ysame_known .nil)))))))))) (.cons ynew2_in (.cons ypost3_in (.cons yclone_i_in (.cons ytot_i_in .nil))))
set_option maxRecDepth 100000 in
theorem tm_all (a : Array Value) (h : a.size = 188) : ∃ f : Nat → Value, (∀ i, a.getD i undef = f i) ∧ a = #[f 0, f 1, f 2, f 3, f 4, f 5, f 6, f 7, f 8, f 9, f 10, f 11, f 12, f 13, f 14, f 15, f 16, f 17, f 18, f 19, f 20, f 21, f 22, f 23, f 24, f 25, f 26, f 27, f 28, f 29, f 30, f 31, f 32, f 33, f 34, f 35, f 36, f 37, f 38, f 39, f 40, f 41, f 42, f 43, f 44, f 45, f 46, f 47, f 48, f 49, f 50, f 51, f 52, f 53, f 54, f 55, f 56, f 57, f 58, f 59, f 60, f 61, f 62, f 63, f 64, f 65, f 66, f 67, f 68, f 69, f 70, f 71, f 72, f 73, f 74, f 75, f 76, f 77, f 78, f 79, f 80, f 81, f 82, f 83, f 84, f 85, f 86, f 87, f 88, f 89, f 90, f 91, f 92, f 93, f 94, f 95, f 96, f 97, f 98, f 99, f 100, f 101, f 102, f 103, f 104, f 105, f 106, f 107, f 108, f 109, f 110, f 111, f 112, f 113, f 114, f 115, f 116, f 117, f 118, f 119, f 120, f 121, f 122, f 123, f 124, f 125, f 126, f 127, f 128, f 129, f 130, f 131, f 132, f 133, f 134, f 135, f 136, f 137, f 138, f 139, f 140, f 141, f 142, f 143, f 144, f 145, f 146, f 147, f 148, f 149, f 150, f 151, f 152, f 153, f 154, f 155, f 156, f 157, f 158, f 159, f 160, f 161, f 162, f 163, f 164, f 165, f 166, f 167, f 168, f 169, f 170, f 171, f 172, f 173, f 174, f 175, f 176, f 177, f 178, f 179, f 180, f 181, f 182, f 183, f 184, f 185, f 186, f 187] := by
  refine ⟨fun i => a.getD i undef, fun i => rfl, ?_⟩
  have e : a = ((List.range 188).map (fun i => a.getD i undef)).toArray := by
    apply Array.ext
    · simp [h]
    · intro i h1 h2
      simp [Array.getD_eq_getD_getElem?, h1]
  exact e.trans rfl
theorem rel_keep {B : Nat} {M I0 : Nat → Prop} {G : Nat → Value} {w0 w w' : World} {E : Env} {n : Int} {y c : YY} {a a' : Act} (h : Rel Try.prog 188 B M I0 G w0 E (yoF n y c) a w) (hs : a'.tmps.size = 188) (hd : a'.defers = []) (h5 : a'.tmps.getD 5 undef = a.tmps.getD 5 undef) (h7 : a'.tmps.getD 7 undef = a.tmps.getD 7 undef) (h13 : a'.tmps.getD 13 undef = a.tmps.getD 13 undef)
    (hf : Fr w.heap.size (fun _ => False) w w') : Rel Try.prog 188 B M I0 G w0 E (yoF n y c) a' w' := by
  have hb : ∀ b, b < w.heap.size → w'.heap[b]? = w.heap[b]? := fun b hb => hf.block b hb (fun h => h)
  have hcv : ∀ {x : Value} {v : SV}, CV E (lkO (yoF n y c).mem) w x v → CV E (lkO (yoF n y c).mem) w' x v := fun h' => CV.mono (fun b h => h) (fun b hI => hb b (h.inew b hI).1) (fun c t cs b h1 h2 => ⟨⟨t, cs, h1⟩, h2⟩) (fun c b _ h2 => ⟨fun h => h, fun h => h, h2⟩) (fun c v h1 => ⟨v, h1, Nat.le_refl _, fun _ => ⟨rfl, fun b h => h⟩⟩) h'
  refine ⟨hd, hs, h.fr.trans ⟨hf.os, hf.tape, hf.output, hf.size, fun k hk _ => hb k (Nat.lt_of_lt_of_le hk h.base)⟩, Nat.le_trans h.base hf.size, h.i0, fun b hI => ⟨Nat.lt_of_lt_of_le (h.inew b hI).1 hf.size, (h.inew b hI).2⟩, fun c b hc => ⟨Nat.lt_of_lt_of_le (h.loc c b hc).1 hf.size, (h.loc c b hc).2⟩, h.inj, fun t => ?_, fun k => ?_, h.ld, h.gv⟩
  · by_cases e5 : t = 5
    · subst e5; rw [h5]; exact hcv (h.tm 5)
    by_cases e7 : t = 7
    · subst e7; rw [h7]; exact hcv (h.tm 7)
    by_cases e13 : t = 13
    · subst e13; rw [h13]; exact hcv (h.tm 13)
    have e : lk SV.any (yoF n y c).tm t = .any := by
      unfold yoF
      simp only [lk_cons]
      rw [if_neg (by omega), if_neg (by omega), if_neg (by omega)]
      rfl
    rw [e]
    exact .conc _ _ (.any _)
  · have hc := h.ch k
    have e : lkO (yoF n y c).mem k = none ∨ ∃ t cs, lkO (yoF n y c).mem k = some (.box t cs) := by
      unfold yoF
      simp only [lkO_cons]
      split
      · exact .inr ⟨_, _, rfl⟩
      split
      · exact .inr ⟨_, _, rfl⟩
      · exact .inl rfl
    rcases e with e | ⟨t, cs, e⟩
    · rw [e]; trivial
    · rw [e] at hc ⊢
      obtain ⟨b, xs, h1, h2, h3, h4⟩ := hc
      exact ⟨b, xs, h1, (hb b (h.loc k b h1).1).trans h2, h3, fun i => hcv (h4 i)⟩
set_option maxRecDepth 100000 in
theorem yown_ok {n : Int} {L : List SV} (hn : in64 n) (hw : wfL slipK L) : FnOK Try.prog 6 (em_lown (n, L)) (.bool true) := by
  refine fnOK_split yoCx_ok Try.func6 (by kernel_rfl) (by kernel_rfl) (show Try.f6.body = some (bodyOf Try.f6) from rfl) (by rfl) (by rfl) (yown1_ok hn hw) ?_
  intro d hd I w E s a w' hrel hk
  have ed : fromC 34 (bodyOf Try.f6) = d := by unfold fromC; rw [hd]
  subst ed
  obtain ⟨⟨y, c⟩, E', hp, _, hr⟩ := atHead_HR hrel hk
  obtain ⟨hU, hC⟩ : upI n L L.length y.Q y.a ∧ cpI y c 60 := hp
  replace hr : Rel Try.prog 188 w.heap.size (fun _ => False) I (fun _ => undef) w E' (yoF n y c) a w' := hr
  obtain ⟨hL, hQ, hs, hS⟩ := up_z hU
  have hsz := hr.tsize
  obtain ⟨f, hf, hta⟩ := tm_all a.tmps hsz
  obtain ⟨b, xs, hl, hx, hxs, hcv⟩ : ∃ b xs, E'.loc 411018 = some b ∧ w'.heap[b]? = some (.cells xs 70 (0, 0)) ∧ xs.size = (y.cs n).length ∧ ∀ i, CV E' (lkO (yoF n y c).mem) w' (xs.getD i undef) ((y.cs n).getD i .any) := hr.ch 411018
  have h5 : f 5 = .pointer (some ⟨b, 0, none⟩) := by
    rw [← hf]
    obtain ⟨b', t, cs, e1, e2, e3⟩ := (show CV E' (lkO (yoF n y c).mem) w' (a.tmps.getD 5 undef) (.ptr 411018 0) from hr.tm 5).inv_ptr
    rw [hl] at e3; cases e3; exact e1
  have hy := cell_of_heap hx (j := 1) (by rw [hxs]; show 1 < 11; omega)
  have hv : Conc E'.I w' (xs.getD 1 undef) (.sl slipK y.Q) := (show CV E' (lkO (yoF n y c).mem) w' (xs.getD 1 undef) (.sl slipK y.Q) from hcv 1).inv_sl
  have ea : a = ⟨#[f 0, f 1, f 2, f 3, f 4, f 5, f 6, f 7, f 8, f 9, f 10, f 11, f 12, f 13, f 14, f 15, f 16, f 17, f 18, f 19, f 20, f 21, f 22, f 23, f 24, f 25, f 26, f 27, f 28, f 29, f 30, f 31, f 32, f 33, f 34, f 35, f 36, f 37, f 38, f 39, f 40, f 41, f 42, f 43, f 44, f 45, f 46, f 47, f 48, f 49, f 50, f 51, f 52, f 53, f 54, f 55, f 56, f 57, f 58, f 59, f 60, f 61, f 62, f 63, f 64, f 65, f 66, f 67, f 68, f 69, f 70, f 71, f 72, f 73, f 74, f 75, f 76, f 77, f 78, f 79, f 80, f 81, f 82, f 83, f 84, f 85, f 86, f 87, f 88, f 89, f 90, f 91, f 92, f 93, f 94, f 95, f 96, f 97, f 98, f 99, f 100, f 101, f 102, f 103, f 104, f 105, f 106, f 107, f 108, f 109, f 110, f 111, f 112, f 113, f 114, f 115, f 116, f 117, f 118, f 119, f 120, f 121, f 122, f 123, f 124, f 125, f 126, f 127, f 128, f 129, f 130, f 131, f 132, f 133, f 134, f 135, f 136, f 137, f 138, f 139, f 140, f 141, f 142, f 143, f 144, f 145, f 146, f 147, f 148, f 149, f 150, f 151, f 152, f 153, f 154, f 155, f 156, f 157, f 158, f 159, f 160, f 161, f 162, f 163, f 164, f 165, f 166, f 167, f 168, f 169, f 170, f 171, f 172, f 173, f 174, f 175, f 176, f 177, f 178, f 179, f 180, f 181, f 182, f 183, f 184, f 185, f 186, f 187], []⟩ := by
    obtain ⟨tm, df⟩ := a
    have := hr.defers
    dsimp only at this hta
    rw [this, hta]
  have hB := partB (Qp := QR Try.prog yoCx w.heap.size (fun _ => False) I (fun _ => undef) w (retQ yoCx Try.f6 (.bool true))) f h5 (hr.ld _ hr.fr) (fun b hb => (hr.inew b hb).1) hy hv hQ (fun k hk => by have := hU.2.2.1 k hk; omega) (fun a' w2 q1 q2 q3 q4 q5 q6 =>
    wpJ_run yoCx_ok noSc_ok _ (yo_an n L) none 0 (yoF n y c) _ E' a' w2 JOk.none (rel_keep hr q1 q2 (q3.trans (hf 5).symm) (q4.trans (hf 7).symm) (q5.trans (hf 13).symm) q6) (yown2_ok hU hC))
  rw [← ea] at hB
  exact hB
theorem lown_known : Known Try.prog 6 lownC := by
  refine ⟨fnB_ok (by kernel_rfl), fun us _ hp => ?_⟩
  simp only [lownC, conOf] at hp ⊢
  cases hs : sh_lown us with
  | none => rw [hs] at hp; exact hp.elim
  | some a =>
    rw [hs] at hp
    obtain ⟨n, L⟩ := a
    exact ⟨rfl, (yown_ok hp.out.1 hp.out.2).le (sh_lown_le us _ hs)⟩
end Go.Rx

