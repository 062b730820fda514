/- Words joined by the program. -/
import Derived.Test.YtnfngikfpajhgaaDoorBld
import Derived.Test.YtnfngikfpajhgaaDoorWj
import Derived.Tactics
import Derived.Tactics2
import Derived.WalkKit
import Derived.Deep.LoopGhost
import Derived.KernelRfl
namespace Go.Rx
open Go.Proofs Go.Shelf Go.RowKit
set_option linter.unusedSimpArgs false
set_option linter.unusedVariables false

def wjoiC : Con := ⟨fun us => match us with
  | [.sl _ l] => some (Ob (∃ xs, l = strs xs ∧ xs ≠ [] ∧ ∀ x, x ∈ xs → x.length ≤ 1000000))
  | _ => some False, fun us => match us with
  | [.sl _ l] => .tup [.str (joiR (l.map SV.toStr)).1, .int .i64 (joiR (l.map SV.toStr)).2]
  | _ => .any⟩
theorem hidQ {p : Prop} (h : p) : Hid p := h
theorem quote_calls (s : ByteArray) (w : World) (hl : Laid.ok Tryd.prog w) (hs : s.size ≤ 1000000) :
    Calls Tryd.prog 28 #[.string s] w fun e w' => e = .returned (.tuple #[.string ⟨(quoV s.data.toList).toArray⟩, .int .i64 (quoE s.data.toList)]) ∧ Below w.heap.size w w' := by
  have hsl : s.data.toList.length ≤ 1000000 := by rw [← Lib.size_eq]; exact hs
  have h := (wquote_known.ok [.str s.data.toList] rfl ⟨hsl⟩).2
  refine (h (fun _ => False) w #[.string s] hl (fun b hb => hb.elim) rfl (fun i => ?_)).mono ?_
  · match i with
    | 0 => exact .inl (.str s _ rfl)
    | i + 1 => exact .inl (by simpa using Conc.any _)
  · rintro e w' ⟨x, I', rfl, hf, _, _, hr⟩
    refine ⟨?_, ⟨hf.os, hf.tape, hf.output, hf.size, fun k hk => hf.block k hk (fun h => h)⟩⟩
    have hr : ResOK I' w.heap.size w' x (.tup [.str (quoV s.data.toList), .int .i64 (quoE s.data.toList)]) := hr
    have hc := hr.conc rfl
    cases hc with
    | tup xs _ hsz hx =>
      have h0 : Conc I' w' (xs.getD 0 undef) (.str (quoV s.data.toList)) := hx 0
      have h1 : Conc I' w' (xs.getD 1 undef) (.int .i64 (quoE s.data.toList)) := hx 1
      obtain ⟨l⟩ := xs
      match l, hsz with
      | [a, b], _ =>
        have h0 : Conc I' w' a (.str (quoV s.data.toList)) := h0
        have h1 : Conc I' w' b (.int .i64 (quoE s.data.toList)) := h1
        cases h1
        cases h0 with
        | str q _ hq =>
          have : q = ⟨(quoV s.data.toList).toArray⟩ := by rw [← hq]
          rw [this]
theorem isB_mono {T e B b : Nat} {bs : List Value} {w w' : World} (h : Lib.IsBuilder T e B b bs w) (hb : Below w.heap.size w w') : Lib.IsBuilder T e B b bs w' := by
  have at_ : ∀ p, Lib.BuilderAt T e B b p bs w → Lib.BuilderAt T e B b p bs w' := fun p ⟨h1, v, h2, h3, h4⟩ => by
    have hlt : ∀ (k : Nat) (o : Obj), w.heap[k]? = some o → k < w.heap.size := fun k o hk => by
      rcases Nat.lt_or_ge k w.heap.size with h' | h'
      · exact h'
      · rw [Array.getElem?_eq_none h'] at hk; cases hk
    refine ⟨h1, v, by rw [hb.block b (hlt _ _ h2)]; exact h2, ownsRow_same h3 (fun g hg => hb.block g ?_), h4⟩
    rcases h3.2 with ⟨rfl, _⟩ | ⟨g', cap, cur, rfl, _, hh, _⟩
    · cases hg
    · cases hg; exact hlt _ _ hh
  exact h.imp (at_ _) (at_ _)
theorem below_le {B : Nat} {w w' : World} (h : Below w.heap.size w w') (hB : B ≤ w.heap.size) : Below B w w' :=
  ⟨h.os, h.tape, h.output, h.size, fun k hk => h.block k (Nat.lt_of_lt_of_le hk hB)⟩
set_option maxHeartbeats 4000000 in
set_option maxRecDepth 100000 in
theorem join_walk (bk o c : Nat) (xs : List ByteArray) (w : World) (hcells : ∀ (j : Nat) x, xs[j]? = some x → w.cell? ⟨bk, o + j, none⟩ = some (.string x)) (hbk : bk < w.heap.size) (hcap : xs.length ≤ c)
    (hsz : ∀ x, x ∈ xs → x.size ≤ 1000000) (hld : Laid.ok Tryd.prog w) :
    Calls Tryd.prog 17 #[.slice (some ⟨bk, o, none⟩) xs.length c] w fun e w' => e = .returned (.tuple #[.string ⟨(joiR (xs.map (·.data.toList))).1.toArray⟩, .int .i64 (joiR (xs.map (·.data.toList))).2]) ∧ Below w.heap.size w w' := by
  have HC := hidQ hcells
  have HL := hidQ hld
  have HS := hidQ hsz
  clear hcells hld hsz
  by_cases hn : 32 < xs.length
  · have e : joiR (xs.map (·.data.toList)) = ([], 2) := by unfold joiR; rw [if_pos (by rw [List.length_map]; exact hn)]
    rw [e]
    have Hr := hidQ (Below.refl w.heap.size w)
    go_enter Tryd.func17, Tryd.ntmps17
    go_wp2
    go_ret2
    exact ⟨rfl, Hr.out⟩
  have hn' : xs.length ≤ 32 := by omega
  have e0 : joiR (xs.map (·.data.toList)) = jnR [] (xs.map (·.data.toList)) := by unfold joiR; rw [if_neg (by rw [List.length_map]; exact hn)]
  rw [e0]
  clear e0 hn
  generalize hR : jnR [] (xs.map (·.data.toList)) = R
  have HR := hidQ hR
  clear hR
  have Hstart := hidQ (Lib.fresh_isBuilder 58 5 w)
  go_enter Tryd.func17, Tryd.ntmps17
  go_wp2_with fail
  go_loopw [14] (fun i wr => ∃ k : Nat, k ≤ xs.length ∧ i = .int .i64 k ∧ Hid (Lib.IsBuilder 58 5 w.heap.size w.heap.size (Lib.byteCells (jnA ((xs.map (·.data.toList)).take k))) wr) ∧ Hid (Below w.heap.size w wr) ∧
      Hid (jnR ((xs.map (·.data.toList)).take k) ((xs.map (·.data.toList)).drop k) = R ∧ (jnA ((xs.map (·.data.toList)).take k)).length ≤ 512)) (fun i _ => xs.length - (intOf i).toNat)
  case atStart => exact ⟨0, Nat.zero_le _, rfl, hidQ (by simpa [jnA, Lib.byteCells] using Hstart.out), hidQ ((Below.refl w.heap.size w).alloc (Nat.le_refl _) _), hidQ ⟨HR.out, by simp [jnA]⟩⟩
  case round =>
    obtain ⟨k, hk, rfl, HB, HW, HJ⟩ := hrel
    have hBw : w.heap.size ≤ wr.heap.size := HW.out.size
    by_cases hkn : k < xs.length
    · obtain ⟨x, hx⟩ : ∃ x, xs[k]? = some x := ⟨xs[k], List.getElem?_eq_getElem hkn⟩
      have hc : wr.cell? ⟨bk, o + k, none⟩ = some (.string x) := by
        rw [HW.out.cell (p := ⟨bk, o + k, none⟩) hbk]; exact HC.out k x hx
      have Hq := hidQ (quote_calls x wr (Laid.mono HW.out.size (fun k hk => HW.out.block k hk) HL.out) (HS.out x (List.mem_of_getElem? hx)))
      have hx' : (xs.map (·.data.toList))[k]? = some x.data.toList := by simp [hx]
      have htake : (xs.map (·.data.toList)).take (k + 1) = (xs.map (·.data.toList)).take k ++ [x.data.toList] := by rw [List.take_add_one, hx']; rfl
      have hdrop : (xs.map (·.data.toList)).drop k = x.data.toList :: (xs.map (·.data.toList)).drop (k + 1) := by
        rw [List.drop_eq_getElem_cons (by simpa using hkn)]
        congr 1
        have := List.getElem?_eq_some_iff.1 hx'
        exact this.2
      have hJ := HJ.out
      rw [hdrop] at hJ
      have hlen : ((xs.map (·.data.toList)).take k).length = k := by simp; omega
      generalize (xs.map (·.data.toList)).take k = O at hJ HB htake hlen
      generalize hDD : (xs.map (·.data.toList)).drop (k + 1) = D at hJ
      have HD := hidQ hDD
      clear hDD
      generalize hX : x.data.toList = X at Hq htake hJ
      obtain ⟨hJ1, hJ2⟩ := hJ
      unfold jnR at hJ1
      by_cases hs : X.all shwB = false
      · rw [if_pos hs] at hJ1
        have hqE : quoE X = 5 := by unfold quoE; rw [if_neg (by rw [hs]; decide)]
        rw [hqE] at Hq
        have HJ1 := hidQ hJ1
        clear hJ1 hs hqE htake hdrop hx'
        go_wp2_with fail
        refine Hq.out.mono ?_
        rintro e w1 ⟨rfl, hb1⟩
        have H1 := hidQ (HW.out.trans ⟨hb1.os, hb1.tape, hb1.output, hb1.size, fun k hk => hb1.block k (Nat.lt_of_lt_of_le hk hBw)⟩)
        clear hb1
        go_wp2
        go_ret2
        rw [← HJ1.out]
        exact ⟨rfl, H1.out⟩
      · rw [if_neg hs] at hJ1
        have hst : X.all shwB = true := by simpa using hs
        have hqE : quoE X = 0 := by unfold quoE; rw [if_pos hst]
        rw [hqE] at Hq
        have hql : (quoV X).length ≤ 1000002 := by
          have h1 := quo_len X
          have h2 := HS.out x (List.mem_of_getElem? hx)
          rw [Lib.size_eq, hX] at h2
          omega
        have hsz : ((⟨(quoV X).toArray⟩ : ByteArray)).size = (quoV X).length := List.size_toArray ..
        have hO : O = [] ∨ O ≠ [] := Classical.em _
        rcases hO with rfl | hO
        · have hk0 : k = 0 := by rw [← hlen]; rfl
          subst hk0
          have eJ : jnA ([] ++ [X]) = quoV X := rfl
          rw [eJ] at hJ1
          have hB0 : Lib.byteCells (jnA []) = [] := rfl
          rw [hB0] at HB
          have HT := hidQ htake
          clear htake hdrop hx' hs hst hqE hJ2
          have hc0 : wr.cell? ⟨bk, o, none⟩ = some (.string x) := hc
          by_cases hl : 512 < (quoV X).length
          · rw [if_pos hl] at hJ1
            have HJ1 := hidQ hJ1
            clear hJ1
            go_wp2_with fail
            refine Hq.out.mono ?_
            rintro e w1 ⟨rfl, hb1⟩
            have H1 := hidQ (HW.out.trans (below_le hb1 hBw))
            have HB1 := hidQ (isB_mono HB.out hb1)
            clear hb1
            have hBw1 : w.heap.size ≤ w1.heap.size := H1.out.size
            go_wp2_with fail
            refine (bld_WriteString w.heap.size w.heap.size [] _ w1 HB1.out (by rw [hsz]; simp only [List.length_nil, List.length_append, List.length_cons, Lib.byteCells_length]; omega) hBw1).mono ?_
            rintro e w2 ⟨rfl, h2, hb2⟩
            rw [List.nil_append, Lib.strCells_eq] at h2
            have HB2 := hidQ (Or.inr h2 : Lib.IsBuilder 58 5 w.heap.size w.heap.size _ w2)
            have H2 := hidQ (H1.out.trans hb2)
            clear h2 hb2
            go_wp2_with fail
            refine (Tryd.Builder_Len w.heap.size w.heap.size _ w2 HB2.out).mono ?_
            rintro e w3 ⟨rfl, rfl⟩
            rw [Lib.byteCells_length]
            go_wp2
            go_ret2
            rw [← HJ1.out]
            exact ⟨rfl, H2.out⟩
          · rw [if_neg hl] at hJ1
            have HJ1 := hidQ hJ1
            have HL3 := hidQ (show (jnA ([] ++ [X])).length ≤ 512 by show (quoV X).length ≤ 512; omega)
            clear hJ1
            go_wp2_with fail
            refine Hq.out.mono ?_
            rintro e w1 ⟨rfl, hb1⟩
            have H1 := hidQ (HW.out.trans (below_le hb1 hBw))
            have HB1 := hidQ (isB_mono HB.out hb1)
            clear hb1
            have hBw1 : w.heap.size ≤ w1.heap.size := H1.out.size
            go_wp2_with fail
            refine (bld_WriteString w.heap.size w.heap.size [] _ w1 HB1.out (by rw [hsz]; simp only [List.length_nil, List.length_append, List.length_cons, Lib.byteCells_length]; omega) hBw1).mono ?_
            rintro e w2 ⟨rfl, h2, hb2⟩
            rw [List.nil_append, Lib.strCells_eq] at h2
            have HB2 := hidQ (Or.inr h2 : Lib.IsBuilder 58 5 w.heap.size w.heap.size _ w2)
            have H2 := hidQ (H1.out.trans hb2)
            clear h2 hb2
            go_wp2_with fail
            refine (Tryd.Builder_Len w.heap.size w.heap.size _ w2 HB2.out).mono ?_
            rintro e w3 ⟨rfl, rfl⟩
            rw [Lib.byteCells_length]
            go_wp2
            exact ⟨⟨0 + 1, by omega, by go_num, hidQ (by rw [HT.out]; exact HB2.out), H2, hidQ ⟨by rw [HT.out, HD.out]; exact HJ1.out, by rw [HT.out]; exact HL3.out⟩⟩, by simp [intOf]; omega⟩
        · have hk0 : 0 < k := by
            rw [← hlen]; exact List.length_pos_iff.2 hO
          have eJ := jnA_snoc (w := X) hO
          have HE := hidQ (show Lib.byteCells (jnA O) ++ [Value.int .u8 32] ++ Lib.strCells ⟨(quoV X).toArray⟩ = Lib.byteCells (jnA (O ++ [X])) by
            rw [eJ, Lib.byteCells_append, Lib.byteCells_append, Lib.strCells_eq, ← List.append_assoc]; rfl)
          have HT := hidQ htake
          clear htake hdrop hx' hs hst hqE eJ hO hlen
          by_cases hl : 512 < (jnA (O ++ [X])).length
          · rw [if_pos hl] at hJ1
            have HJ1 := hidQ hJ1
            clear hJ1
            go_wp2_with fail
            refine Hq.out.mono ?_
            rintro e w1 ⟨rfl, hb1⟩
            have H1 := hidQ (HW.out.trans (below_le hb1 hBw))
            have HB1 := hidQ (isB_mono HB.out hb1)
            clear hb1
            have hBw1 : w.heap.size ≤ w1.heap.size := H1.out.size
            go_wp2_with fail
            refine (bld_WriteByte w.heap.size w.heap.size (Lib.byteCells (jnA O)) 32 w1 HB1.out (by rw [Lib.byteCells_length]; omega) hBw1).mono ?_
            rintro e w4 ⟨rfl, h4, hb4⟩
            have HB4 := hidQ (Or.inr h4 : Lib.IsBuilder 58 5 w.heap.size w.heap.size _ w4)
            have H4 := hidQ (H1.out.trans hb4)
            clear h4 hb4
            have hBw4 : w.heap.size ≤ w4.heap.size := H4.out.size
            go_wp2_with fail
            refine (bld_WriteString w.heap.size w.heap.size (Lib.byteCells (jnA O) ++ [Value.int .u8 32]) _ w4 HB4.out (by rw [hsz]; simp only [List.length_nil, List.length_append, List.length_cons, Lib.byteCells_length]; omega) hBw4).mono ?_
            rintro e w2 ⟨rfl, h2, hb2⟩
            rw [HE.out] at h2
            have HB2 := hidQ (Or.inr h2 : Lib.IsBuilder 58 5 w.heap.size w.heap.size _ w2)
            have H2 := hidQ (H4.out.trans hb2)
            clear h2 hb2
            go_wp2_with fail
            refine (Tryd.Builder_Len w.heap.size w.heap.size _ w2 HB2.out).mono ?_
            rintro e w3 ⟨rfl, rfl⟩
            rw [Lib.byteCells_length]
            go_wp2
            go_ret2
            rw [← HJ1.out]
            exact ⟨rfl, H2.out⟩
          · rw [if_neg hl] at hJ1
            have HJ1 := hidQ hJ1
            have HL3 := hidQ (show (jnA (O ++ [X])).length ≤ 512 by omega)
            clear hJ1
            go_wp2_with fail
            refine Hq.out.mono ?_
            rintro e w1 ⟨rfl, hb1⟩
            have H1 := hidQ (HW.out.trans (below_le hb1 hBw))
            have HB1 := hidQ (isB_mono HB.out hb1)
            clear hb1
            have hBw1 : w.heap.size ≤ w1.heap.size := H1.out.size
            go_wp2_with fail
            refine (bld_WriteByte w.heap.size w.heap.size (Lib.byteCells (jnA O)) 32 w1 HB1.out (by rw [Lib.byteCells_length]; omega) hBw1).mono ?_
            rintro e w4 ⟨rfl, h4, hb4⟩
            have HB4 := hidQ (Or.inr h4 : Lib.IsBuilder 58 5 w.heap.size w.heap.size _ w4)
            have H4 := hidQ (H1.out.trans hb4)
            clear h4 hb4
            have hBw4 : w.heap.size ≤ w4.heap.size := H4.out.size
            go_wp2_with fail
            refine (bld_WriteString w.heap.size w.heap.size (Lib.byteCells (jnA O) ++ [Value.int .u8 32]) _ w4 HB4.out (by rw [hsz]; simp only [List.length_nil, List.length_append, List.length_cons, Lib.byteCells_length]; omega) hBw4).mono ?_
            rintro e w2 ⟨rfl, h2, hb2⟩
            rw [HE.out] at h2
            have HB2 := hidQ (Or.inr h2 : Lib.IsBuilder 58 5 w.heap.size w.heap.size _ w2)
            have H2 := hidQ (H4.out.trans hb2)
            clear h2 hb2
            go_wp2_with fail
            refine (Tryd.Builder_Len w.heap.size w.heap.size _ w2 HB2.out).mono ?_
            rintro e w3 ⟨rfl, rfl⟩
            rw [Lib.byteCells_length]
            go_wp2
            exact ⟨⟨k + 1, by omega, by go_num, hidQ (by rw [HT.out]; exact HB2.out), H2, hidQ ⟨by rw [HT.out, HD.out]; exact HJ1.out, by rw [HT.out]; exact HL3.out⟩⟩, by simp [intOf]; omega⟩
    · have hke : k = xs.length := by omega
      subst hke
      have hT : (xs.map (·.data.toList)).take xs.length = xs.map (·.data.toList) := List.take_of_length_le (by simp)
      have hD : (xs.map (·.data.toList)).drop xs.length = [] := List.drop_of_length_le (by simp)
      rw [hT] at HB HJ
      rw [hD] at HJ
      have HJ1 := hidQ (show (jnA (xs.map (·.data.toList)), (0 : Int)) = R from HJ.out.1)
      clear hT hD HJ
      go_wp2_with fail
      refine (Tryd.Builder_String_any w.heap.size w.heap.size _ wr HB.out hBw).mono ?_
      rintro e w5 ⟨rfl, hb5⟩
      have H5 := hidQ (HW.out.trans hb5)
      clear hb5
      go_wp2
      go_ret2
      rw [← HJ1.out]
      exact ⟨rfl, H5.out⟩

theorem conc_strJ {I : Nat → Prop} {w : World} {x : Value} {s : List UInt8} (h : Conc I w x (.str s)) : x = .string ⟨s.toArray⟩ := by
  cases h with
  | str b _ h => subst h; rfl
theorem wjoi_known : Known Tryd.prog 17 wjoiC := by
  refine ⟨fnB_ok (by kernel_rfl), fun vs hc hp => ?_⟩
  simp only [wjoiC] at hp ⊢
  split at hp
  · rename_i ks l
    obtain ⟨xs, rfl, hne, hsz⟩ := hp
    refine ⟨rfl, fun I w vs hl hI hs hx => ?_⟩
    have e0 := (hx 0).conc rfl
    obtain ⟨vl⟩ := vs
    obtain ⟨x, rfl⟩ : ∃ x, vl = [x] := by
      match vl, hs with
      | [x], _ => exact ⟨x, rfl⟩
    have e0 : Conc I w x (.sl ks (strs xs)) := e0
    have hst : (strs xs).map SV.toStr = xs := by
      unfold strs
      rw [List.map_map]
      conv => rhs; rw [← List.map_id xs]
      rfl
    rw [hst]
    generalize hst2 : strs xs = st at e0
    cases e0 with
    | sl0 a cap =>
      exact absurd (by cases xs with
        | nil => rfl
        | cons a r => cases hst2) hne
    | sl b off cap _ _ f hb hcap hsh hf hfc =>
      subst hst2
      have hlx : (strs xs).length = xs.length := List.length_map ..
      rw [hlx] at hcap hf hfc ⊢
      have hpos : 0 < xs.length := List.length_pos_iff.2 hne
      have hk1 : ks.length = 1 := by
        have := (hsh ((strs xs).getD 0 .any) (by rw [List.getD_eq_getElem?_getD, List.getElem?_eq_getElem (by rw [hlx]; omega)]; exact List.getElem_mem _)).1
        unfold strs at this
        rw [getD_map SV.str xs 0 [] .any (by omega)] at this
        exact this.symm
      have hb2 : (xs.map fun t => (⟨t.toArray⟩ : ByteArray)).length = xs.length := List.length_map ..
      have hjm : ((xs.map fun t => (⟨t.toArray⟩ : ByteArray)).map (·.data.toList)) = xs := by
        rw [List.map_map]
        conv => rhs; rw [← List.map_id xs]
        rfl
      have := join_walk b off cap (xs.map fun t => (⟨t.toArray⟩ : ByteArray)) w (fun j u hj => by
        rw [List.getElem?_map] at hj
        cases hxj : xs[j]? with
        | none => rw [hxj] at hj; cases hj
        | some t =>
          rw [hxj] at hj
          simp only [Option.map_some, Option.some.injEq] at hj
          subst hj
          have hjl := (List.getElem?_eq_some_iff.1 hxj).1
          have h1 := hf j 0 hjl (by omega)
          have h2 := hfc j 0 hjl (by omega)
          rw [hk1, Nat.mul_one, Nat.add_zero] at h1
          rw [h1]
          have h3 : elCell (strs xs) j 0 = .str t := by
            have hg : (strs xs).getD j .any = .str t := by
              unfold strs
              rw [getD_map SV.str xs j [] .any hjl, List.getD_eq_getElem?_getD, hxj]; rfl
            unfold elCell
            rw [hg]; rfl
          rw [h3] at h2
          rw [conc_strJ h2]) (hI b hb) (by rw [hb2]; exact hcap) (fun u hu => by
            obtain ⟨t, ht, rfl⟩ := List.mem_map.1 hu
            have := hsz t ht
            rw [Lib.size_eq]; simpa using this) hl
      rw [hb2, hjm] at this
      refine this.mono ?_
      rintro e w' ⟨rfl, hw⟩
      refine ⟨_, I, rfl, ⟨hw.os, hw.tape, hw.output, hw.size, fun k hk _ => hw.block k hk⟩, fun _ h => h, fun b hb' => ⟨Nat.lt_of_lt_of_le (hI b hb') hw.size, .inl hb'⟩, .inl (.tup _ _ rfl (fun i => ?_))⟩
      match i with
      | 0 => exact .str _ _ rfl
      | 1 => exact .int _ _
      | i + 2 => exact (by simpa using Conc.any _)
  · exact hp.elim
end Go.Rx

