/- The library's stable sort of at most 64 places by what is left out there, as what it makes of a row of the caller's own: sorted, of like ones the first one first. -/
import Derived.Test.YtgcleepiopmabaaDoorPq
import Derived.Test.YtgcleepiopmabaaDoorSm5
namespace Go.Rx
open Go.Proofs
set_option linter.unusedSimpArgs false
set_option linter.unusedVariables false

def srtP (R : List SV) (N : Nat) (p : List Int) : Prop := p.Perm ((List.range N).map fun (i : Nat) => (i : Int)) ∧
  ∀ i j, i < j → j < N → wt R (p.getD j 0).toNat < wt R (p.getD i 0).toNat ∨ (wt R (p.getD i 0).toNat = wt R (p.getD j 0).toNat ∧ p.getD i 0 ≤ p.getD j 0)
def tr_sstb : Tr := fun _ us m K => match us with
  | [.osl c ver, .fn g [.ptr bx 0]] => match lkO m c with
    | some (.row v e ks l) => match lkO m bx with
      | some (.box _ [.osl r vr]) => match lkO m r with
        | some (.row v2 _ ks2 R) => match Nat.beq v ver && (Nat.beq v2 vr && (cksEq ks [.int .i64] && (cksEq ks2 [.int .u64] && (Nat.beq g 52 && !(Nat.beq c r))))) with
          | true => Ob (0 < l.length ∧ l.length ≤ 64 ∧ (∀ q, q < l.length → wt l q = q) ∧ l.length = R.length) ∧ ∀ p : List Int, srtP R l.length p → K (.tup []) ((c, .row v e ks (iSV p)) :: m)
          | false => False
        | _ => False
      | _ => False
    | _ => False
  | _ => False
open Go.RowKit Go.Sort
set_option maxHeartbeats 1600000 in
theorem sstb_in : InK Tryd.prog 51 tr_sstb := by
  refine ⟨fnB_ok (by kernel_rfl), fun off B M I0 G w0 E m w us xs K h hs hx hT => ?_⟩
  unfold tr_sstb at hT
  split at hT
  · rename_i c ver gg bx
    obtain ⟨x, y, rfl⟩ := two_args hs rfl
    have hx1 : CV E (lkO m) w x (.osl c ver) := hx 0
    have hx2 : CV E (lkO m) w y (.fn gg [.ptr bx 0]) := hx 1
    split at hT
    · rename_i v e ks l hm
      split at hT
      · rename_i tb r vr hmb
        split at hT
        · rename_i v2 e2 ks2 R hmr
          split at hT
          · rename_i hb
            simp only [Bool.and_eq_true, Bool.not_eq_true'] at hb
            obtain ⟨b1, b2, b3, b4, b5, b6⟩ := hb
            have b1 := Nat.eq_of_beq_eq_true b1
            have b2 := Nat.eq_of_beq_eq_true b2
            have b3 := cksEq_eq _ _ b3
            have b4 := cksEq_eq _ _ b4
            have b5 := Nat.eq_of_beq_eq_true b5
            subst b1 b2 b3 b4 b5
            have hcr : c ≠ r := fun e => by subst e; rw [Nat.beq_refl] at b6; cases b6
            obtain ⟨⟨ho1, ho2, hid, ho4⟩, hK⟩ := hT
            have ho3 : inrB l = true := inr_rng hid
            obtain ⟨v', g1, g2⟩ := hx1.inv_osl
            rw [hm] at g1
            simp only [verOf, Option.some.injEq] at g1
            have hxe := g2 g1
            obtain ⟨ys, y1, y2, y3⟩ := hx2.inv_fn
            have y30 : CV E (lkO m) w (ys.getD 0 undef) (.ptr bx 0) := y3 0
            obtain ⟨bb, tb', cs', z1, z2, z3⟩ := y30.inv_ptr
            have hys : ys = #[.pointer (some ⟨bb, 0, none⟩)] := by
              obtain ⟨yl⟩ := ys
              match yl, y2 with
              | [q], _ =>
                have z1 : q = .pointer (some ⟨bb, 0, none⟩) := z1
                rw [z1]
            have hc := h.ch c
            rw [show lkO (St.mem ⟨[], m⟩) c = lkO m c from rfl, hm] at hc
            have hcb := h.ch bx
            rw [show lkO (St.mem ⟨[], m⟩) bx = lkO m bx from rfl, hmb] at hcb
            have hcr' := h.ch r
            rw [show lkO (St.mem ⟨[], m⟩) r = lkO m r from rfl, hmr] at hcr'
            obtain ⟨g, cap, cur, hl, ev, hob, hh, hn, hcm, hsz, hcell⟩ := row_intF hc ho1
            obtain ⟨rg, rcap, rcur, rl, rev, _, rh, rn, _, rsz, rcell⟩ := row_intF hcr' (by omega)
            obtain ⟨bb', bys, w1, w2, w3, w4⟩ := hcb
            rw [z3] at w1
            cases w1
            obtain ⟨v'', q1, q2⟩ := (show CV E (lkO m) w (bys.getD 0 undef) (.osl r v2) from w4 0).inv_osl
            rw [hmr] at q1
            simp only [verOf, Option.some.injEq] at q1
            have hby := q2 q1
            rw [rev] at hby
            have hgl := (h.loc c g hl).1
            have hbl := (h.loc bx bb z3).1
            have hrl := (h.loc r rg rl).1
            have hbg : bb ≠ g := fun e => by
              have := h.inj bx c bb z3 (by rw [e]; exact hl)
              subst this
              rw [hm] at hmb; cases hmb
            have hrg : rg ≠ g := fun e => hcr (h.inj c r g hl (by rw [← e]; exact rl))
            haveI : Inhabited (Fin l.length) := ⟨⟨0, ho1⟩⟩
            have hcellr : ∀ j, j < l.length → ((toF l.length ho1 ((ints l).getD j 0)).val : Int) = (elCell l j 0).toInt := fun j hj => by
              rw [← ints_get l j hj]; exact toF_val (inr_get ho3 hj)
            have hdl : ((ints l).map (toF l.length ho1)).toArray.size = l.length := by rw [List.size_toArray, List.length_map, ints_length]
            obtain ⟨d, hd⟩ : ∃ d : Array (Fin l.length), d = ((ints l).map (toF l.length ho1)).toArray := ⟨_, rfl⟩
            rw [← hd] at hdl
            have hdget : ∀ j, j < l.length → (d[j]!).val = toF l.length ho1 ((ints l).getD j 0) := fun j hj => by
              rw [getElem!_pos d j (by omega)]
              subst hd
              have hj2 : j < (ints l).length := by rw [ints_length]; exact hj
              simp [List.getD_eq_getElem?_getD, List.getElem?_eq_getElem hj2]
            have hH : Sort.Holds (encF l.length) w g 0 d := fun j hj => by
              rw [hdl] at hj
              refine ⟨?_, by simp [World.frozen?, hh]⟩
              simp only [World.cell?, hh, Nat.zero_add]
              rw [if_neg (by simp), hcell j hj]
              show some (Value.int .i64 _) = some (Value.int .i64 ((d[j]!).val : Int))
              rw [hdget j hj, hcellr j hj]
            have hcmp : CmpLays1 Tryd.prog 52 #[.pointer (some ⟨bb, 0, none⟩)] (encF l.length) (cfF l.length R) g 0 d.size w := fun mm os dk hsd x y => by
              have hold : ∀ k, k < w.heap.size → k ≠ g → (sortWorld (encF l.length) w g 0 mm dk os).heap[k]? = w.heap[k]? := fun k hk hkg => by
                unfold sortWorld
                rw [Sort.heap_grow_old _ _ (by simpa [Sort.putRow, Sort.mapBlock, Sort.ahead] using hk), qt_other _ _ hkg]; rfl
              have hbxc : (sortWorld (encF l.length) w g 0 mm dk os).cell? ⟨bb, 0, none⟩ = some (.slice (some ⟨rg, 0, none⟩) R.length rcap) := by
                simp only [World.cell?, hold bb hbl hbg, w2]
                rw [if_neg (by simp)]
                rw [← hby]
                have : 0 < bys.size := by rw [w3]; exact Nat.succ_pos 0
                rw [Array.getD_eq_getD_getElem?, Array.getElem?_eq_getElem this]; rfl
              have hrc : ∀ z : Fin l.length, (sortWorld (encF l.length) w g 0 mm dk os).cell? ⟨rg, 0 + z.val, none⟩ = some (.int .u64 (rsV R z.val)) := fun z => by
                simp only [World.cell?, hold rg hrl hrg, rh, Nat.zero_add]
                rw [if_neg (by simp), rcell z.val (by rw [← ho4]; exact z.isLt)]
                unfold rsV
                rw [Int.toNat_natCast]
              refine (Tryd.give1 bb rg 0 R.length rcap x.val y.val _ _ _ hbxc (hrc x) (hrc y) (by rw [← ho4]; exact x.isLt) (by rw [← ho4]; exact y.isLt)).mono ?_
              rintro e w' ⟨q1, q, rfl⟩
              exact ⟨q1, q, #[], by rw [Sort.grow_empty]⟩
            have hinc : ∀ p q, p < q → q < d.size → (d[p]!).val < (d[q]!).val := fun p q hpq hq => by
              have e1 : ∀ j, j < l.length → (d[j]!).val = j := fun j hj => by
                have a1 := hdget j hj
                have a2 := hcellr j hj
                have a3 : (elCell l j 0).toInt = j := hid j hj
                omega
              rw [e1 p (by omega), e1 q (by omega)]; exact hpq
            have hcf : ∀ x y : Fin l.length, cfF l.length R x y < 0 ↔ rsV R y.val < rsV R x.val := fun x y => by
              unfold cfF cmpR
              generalize rsV R x.val = a
              generalize rsV R y.val = b
              split
              · exact ⟨fun _ => by assumption, fun _ => by decide⟩
              · split <;> exact ⟨fun h => absurd h (by decide), fun h => absurd h (by assumption)⟩
            have hcall := Tryd.sortStableS (encF l.length) (cfF l.length R) (fun x => rsV R x.val) (fun x => x.val) hcf 52 #[.pointer (some ⟨bb, 0, none⟩)] g 0 cap d w (enters_of Tryd.func52 (by kernel_rfl) rfl) hcmp ⟨fun _ => rfl, hH, hgl⟩ hinc (by rw [hdl]; exact ho2)
            rw [hdl] at hcall
            rw [hxe, ev, y1, hys]
            refine hcall.mono (fun e' w' hpost => ?_)
            obtain ⟨rfl, dk, hp, hsrt, nn, os, rfl⟩ := hpost
            have hds : dk.size = l.length := by rw [hp.1, hdl]
            have hperm : dk.toList.Perm d.toList := by
              have := hp.2.2
              rw [Array.extract_eq_self_of_le (by omega), Array.extract_eq_self_of_le (by omega)] at this
              exact this
            have hdi : d.toList.map (fun i => (i.val : Int)) = ints l := by
              apply List.ext_getElem?
              intro j
              rw [List.getElem?_map, Array.getElem?_toList]
              by_cases hj : j < l.length
              · rw [Array.getElem?_eq_getElem (by omega), List.getElem?_eq_getElem (by rw [ints_length]; exact hj)]
                simp only [Option.map_some, Option.some.injEq]
                have h1 := hdget j hj
                rw [getElem!_pos d j (by omega)] at h1
                rw [h1, hcellr j hj, ints_get l j hj, List.getD_eq_getElem?_getD, List.getElem?_eq_getElem (by rw [ints_length]; exact hj)]; rfl
              · rw [Array.getElem?_eq_none (by omega), List.getElem?_eq_none (by rw [ints_length]; omega)]; rfl
            have hpi : (dk.toList.map (fun i => (i.val : Int))).Perm (ints l) := by rw [← hdi]; exact hperm.map _
            have hgd : ∀ i, i < l.length → (dk.toList.map (fun i => (i.val : Int))).getD i 0 = ((dk[i]!).val : Int) := fun i hi => by
              rw [List.getD_eq_getElem?_getD, List.getElem?_map, Array.getElem?_toList, Array.getElem?_eq_getElem (by omega), getElem!_pos dk i (by omega)]; rfl
            have hsp : srtP R l.length (dk.toList.map (fun i => (i.val : Int))) := by
              refine ⟨by rw [← ints_rng hid]; exact hpi, fun i j hij hj => ?_⟩
              rw [hgd i (by omega), hgd j hj]
              have h1 : rsV R (dk[j]!).val < rsV R (dk[i]!).val ∨ (rsV R (dk[i]!).val = rsV R (dk[j]!).val ∧ (dk[i]!).val ≤ (dk[j]!).val) := hsrt i j (Nat.zero_le _) hij (by omega)
              rcases h1 with h1 | ⟨h1, h2⟩
              · exact .inl h1
              · exact .inr ⟨h1, by omega⟩
            have hK' := hK _ hsp
            have hpl : (dk.toList.map (fun i => (i.val : Int))).length = l.length := by rw [List.length_map, Array.length_toList, hds]
            have hte : dk.toList.map (encF l.length) = (dk.toList.map (fun i => (i.val : Int))).map (Value.int .i64) := by rw [List.map_map]; rfl
            generalize hP : dk.toList.map (fun i => (i.val : Int)) = p at hpi hK' hpl hte
            have hrow := row_putI (I := E.I) (w' := Sort.putRow (encF l.length) (Sort.ahead w nn) g 0 dk) (e := e) (g := g) (cap := cap) (d := p) (qt_at _ _ (show (Sort.ahead w nn).heap[g]? = _ from hh)) (by omega) hcm (by rw [qt_size]; exact hsz)
              (by rw [show p.length = dk.size by rw [hpl, hds], qt_take _ _ _ (by omega), hte])
            have r1 := Rel.storeRow (cx := cx0) (s := ⟨[], m⟩) (a := ⟨#[], []⟩) (l' := iSV p) (d := none) (x := .tuple #[]) (u := .tup []) (w' := Sort.putRow (encF l.length) (Sort.ahead w nn) g 0 dk) h hm hl
              (fun k hk => by rw [qt_other _ _ hk]; rfl) (by simp [Sort.putRow, Sort.mapBlock, Sort.ahead]) ⟨rfl, rfl, rfl⟩
              ⟨iSV_sh _, .inl ⟨hob, _, by rw [ev, iSV_len, hpl]; rw [hpl] at hrow; exact hrow.1, fun i j hi hj => hrow.2 i j (by rw [iSV_len] at hi; exact hi) hj⟩⟩ (fun k hk => by cases hk) (.conc _ _ (.tup #[] [] rfl (fun i => by simpa using Conc.any _)))
            have r2 := Rel.called (cx := cx0) (I' := E.I) (w' := Sort.grow (Sort.putRow (encF l.length) (Sort.ahead w nn) g 0 dk) os) (x := .tuple #[]) (v := .tup []) (d := none) r1
              ⟨rfl, rfl, rfl, by simp, fun k hk _ => Sort.heap_grow_old _ _ hk⟩ (fun _ h => h) (fun b hb => ⟨Nat.lt_of_lt_of_le (r1.inew b hb).1 (by rw [Sort.size_grow]; exact Nat.le_add_right _ _), .inl hb⟩) (.tup #[] [] rfl (fun i => by simpa using Conc.any _)) (fun k hk => by cases hk)
            exact ⟨_, _, _, _, rfl, r2, .conc _ _ (.tup #[] [] rfl (fun i => by simpa using Conc.any _)), hK'⟩
          · exact hT.elim
        · exact hT.elim
      · exact hT.elim
    · exact hT.elim
  · exact hT.elim
end Go.Rx

