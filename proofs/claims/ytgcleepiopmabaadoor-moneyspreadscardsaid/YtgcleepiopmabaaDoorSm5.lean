/- The library's stable sort of at most 64, gone through: sorted, and stable. -/
import Derived.Test.YtgcleepiopmabaaDoorSm4
namespace Go.Proofs
open Go.Shelf Go.RowKit Go.Lib Go.Sort
set_option linter.unusedSimpArgs false
set_option linter.unusedVariables false
variable {α : Type} [Inhabited α]

theorem Tryd.insS (enc : α → Value) (cf : α → α → Int) (g : Nat) (cb : Array Value) (blk off cap a b : Nat) (d0 d : Array α) (w0 w : World)
    (eg : ∀ args w, (callFunc g args).run Tryd.prog w = .ok (.enter g args) w) (hcmp : CmpLays1 Tryd.prog g cb enc cf blk off d0.size w0) (R : Row1 enc w0 blk off d0) (hs : d.size = d0.size) (S : SW enc w0 blk off d w) (hab : a ≤ b) (hb : b ≤ d0.size) (hsz : d0.size < 4611686018427387904) :
    Calls Tryd.prog 68 #[.slice (some ⟨blk, off, none⟩) d0.size cap, .int .i64 a, .int .i64 b, .func (.func g) #[] cb] w fun e w' => e = .returned (.tuple #[]) ∧ Aside (SW enc w0 blk off (Sort.insertionSort (ltOf cf) d a b) w') := by
  have h := Any.insertionSortCmpFunc_s Tryd.laysIS enc cf g cb blk off cap a b d0 d w0 w eg hcmp R hs.symm S hab (by omega) (by omega)
  rw [hs] at h
  exact h

set_option maxHeartbeats 16000000 in
set_option maxRecDepth 1000000 in
theorem Tryd.stableS (enc : α → Value) (cf : α → α → Int) (r : α → Int) (ix : α → Nat) (hcf : ∀ x y, cf x y < 0 ↔ r y < r x) (g : Nat) (cb : Array Value) (blk off cap : Nat) (d : Array α) (w : World)
    (eg : ∀ args w, (callFunc g args).run Tryd.prog w = .ok (.enter g args) w) (hcmp : CmpLays1 Tryd.prog g cb enc cf blk off d.size w) (R : Row1 enc w blk off d) (hinc : ∀ p q, p < q → q < d.size → ix d[p]! < ix d[q]!) (hsz : d.size ≤ 64) :
    Calls Tryd.prog 60 #[.slice (some ⟨blk, off, none⟩) d.size cap, .int .i64 d.size, .func (.func g) #[] cb] w fun e w' => e = .returned (.tuple #[]) ∧ ∃ d', Hid (PermIn 0 d.size d d' ∧ SortS r ix 0 d.size d') ∧ Aside (SW enc w blk off d' w') := by
  have mixed := Go.Rx.mixedT
  have e68 : ∀ args w, (callFunc 68 args).run Tryd.prog w = .ok (.enter 68 args) w := enters_of Tryd.func68 (by kernel_rfl) rfl
  have e69 : ∀ args w, (callFunc 69 args).run Tryd.prog w = .ok (.enter 69 args) w := enters_of Tryd.func69 (by kernel_rfl) rfl
  have INS : Aside (∀ (a b : Nat) (dk : Array α) (w' : World), dk.size = d.size → SW enc w blk off dk w' → a ≤ b → b ≤ d.size → Calls Tryd.prog 68 #[.slice (some ⟨blk, off, none⟩) d.size cap, .int .i64 a, .int .i64 b, .func (.func g) #[] cb] w' fun e w2 => e = .returned (.tuple #[]) ∧ Aside (SW enc w blk off (Sort.insertionSort (ltOf cf) dk a b) w2)) :=
    fun a b dk w' hs S hab hb => Tryd.insS enc cf g cb blk off cap a b d dk w w' eg hcmp R hs S hab hb (by omega)
  have MRG : Aside (∀ (a m b : Nat) (dk : Array α) (w' : World), dk.size = d.size → SW enc w blk off dk w' → a < m → m < b → b ≤ d.size → Calls Tryd.prog 69 #[.slice (some ⟨blk, off, none⟩) d.size cap, .int .i64 a, .int .i64 m, .int .i64 b, .func (.func g) #[] cb] w' fun e w2 => e = .returned (.tuple #[]) ∧ ∃ d', Hid (MrgS r ix a m b dk d') ∧ Aside (SW enc w blk off d' w2)) :=
    fun a m b dk w' hs S h1 h2 h3 => Tryd.symMergeS enc cf r ix hcf g cb blk off cap d w eg hcmp R (by omega) (b - a) a m b dk w' (Nat.le_refl _) hs S h1 h2 h3
  have S0 : Aside (SW enc w blk off d w) := SW.start R.hH
  have CF : Aside _ := hcf
  have H0 : Hid (PermIn 0 d.size d d ∧ Ph0 r ix 0 d.size d) := ⟨permIn_refl _ _ _, fun x _ hx => by omega, fun t _ i j hi hit hj hjn => hinc i j (by omega) hjn⟩
  clear hcmp hcf R eg hinc
  go_enter Tryd.func60, Tryd.ntmps60
  go_wp2
  go_loopg [7, 8] d.size (fun g1 va vb wr => ∃ (a : Nat) (dk : Array α), va = .int .i64 a ∧ vb = .int .i64 ((a : Int) + 20) ∧ a ≤ d.size ∧ a % 20 = 0 ∧ d.size - a ≤ g1 ∧ Hid (PermIn 0 d.size d dk ∧ Ph0 r ix a d.size dk) ∧ Aside (SW enc w blk off dk wr))
  case atStart => exact ⟨0, d, rfl, rfl, Nat.zero_le _, rfl, by omega, H0, S0⟩
  case round =>
    clear S0 H0
    obtain ⟨a, dk, rfl, rfl, had, ha20, hg, HP, S1⟩ := hrel
    have r1 : IntKind.i64.wrap ((a : Int) + 20 + 20) = (a : Int) + 20 + 20 := by rw [IntKind.wrap_i64]; omega
    by_cases hle : (a : Int) + 20 ≤ (d.size : Int)
    · have hc := INS.out a (a + 20) dk wr HP.out.1.1 S1.out (by omega) (by omega)
      rw [show ((a + 20 : Nat) : Int) = (a : Int) + 20 by omega] at hc
      have H2 : Hid (PermIn 0 d.size d (Sort.insertionSort (ltOf cf) dk a (a + 20)) ∧ Ph0 r ix (a + 20) d.size (Sort.insertionSort (ltOf cf) dk a (a + 20))) := by
        have hk := HP.out.1.1
        obtain ⟨p1, p2⟩ := ph0_ins CF.out HP.out.2 (show a + 20 ≤ d.size by omega) (by omega) (by omega)
        exact ⟨permIn_trans _ _ _ _ _ HP.out.1 (permIn_mono _ _ _ _ _ _ (Nat.zero_le _) (by omega) (by omega) p1), ph0_next HP.out.2 ha20 (by omega) (by omega) p1 p2⟩
      go_wp2_with (go_at_call 68; refine hc.mono ?_; rintro e w' ⟨rfl, hh⟩)
      go_roundg (d.size - (a + 20))
      case measure => omega
      case rel => exact ⟨a + 20, _, by go_num, by go_num, by omega, by omega, Nat.le_refl _, H2, hh⟩
    · have hc := INS.out a d.size dk wr HP.out.1.1 S1.out had (Nat.le_refl _)
      have H2 : Hid (PermIn 0 d.size d (Sort.insertionSort (ltOf cf) dk a d.size) ∧ PhS r ix 20 d.size (Sort.insertionSort (ltOf cf) dk a d.size)) := by
        have hk := HP.out.1.1
        obtain ⟨p1, p2⟩ := ph0_ins CF.out HP.out.2 (Nat.le_refl _) had (by omega)
        exact ⟨permIn_trans _ _ _ _ _ HP.out.1 (permIn_mono _ _ _ _ _ _ (Nat.zero_le _) (by omega) (by omega) p1), ph0_end HP.out.2 ha20 had (by omega) (by omega) p1 p2⟩
      generalize Sort.insertionSort (ltOf cf) dk a d.size = d2 at hc H2
      go_wp2_with (go_at_call 68; refine hc.mono ?_; rintro e w' ⟨rfl, hh⟩)
      clear hc S1 hle r1 hg HP
      go_loopg [6] d.size (fun g1 vs wr => ∃ (s : Nat) (dk : Array α), vs = .int .i64 s ∧ (s = 20 ∨ s = 40 ∨ s = 80) ∧ d.size - s ≤ g1 ∧ Hid (PermIn 0 d.size d dk ∧ PhS r ix s d.size dk) ∧ Aside (SW enc w blk off dk wr))
      case atStart => exact ⟨20, d2, rfl, .inl rfl, by omega, H2, hh⟩
      case round =>
        clear hh H2
        obtain ⟨s, dk, rfl, hs1, hg, HP, S1⟩ := hrel
        by_cases hlt : (s : Int) < (d.size : Int)
        · have r1 : IntKind.i64.wrap (2 * (s : Int)) = 2 * (s : Int) := by rw [IntKind.wrap_i64]; omega
          have r2 : IntKind.i64.wrap ((s : Int) * 2) = (s : Int) * 2 := by rw [IntKind.wrap_i64]; omega
          have HS : Hid (s = 20 ∨ s = 40) := by
            show s = 20 ∨ s = 40
            omega
          have H3 : Hid (PermIn 0 d.size d dk ∧ Ph1 r ix s 0 d.size dk) := ⟨HP.out.1, ph1_start HS.out HP.out.2⟩
          clear hs1 HP
          have hs0 : 0 < s := by have := HS.out; omega
          go_wp2
          go_loopg [7, 8] d.size (fun g2 va vb wr => ∃ (a : Nat) (dk : Array α), va = .int .i64 a ∧ vb = .int .i64 ((a : Int) + 2 * (s : Int)) ∧ a ≤ d.size ∧ Hid (a % (2 * s) = 0) ∧ d.size - a ≤ g2 ∧ Hid (PermIn 0 d.size d dk ∧ Ph1 r ix s a d.size dk) ∧ Aside (SW enc w blk off dk wr))
          case atStart => exact ⟨0, dk, rfl, by go_num, Nat.zero_le _, Nat.zero_mod _, by omega, H3, S1⟩
          case round =>
            clear S1 H3
            obtain ⟨a, dk, rfl, rfl, had, HA, hg2, HP, S1⟩ := hrel
            have r3 : IntKind.i64.wrap ((a : Int) + (s : Int)) = (a : Int) + (s : Int) := by rw [IntKind.wrap_i64]; omega
            have r4 : IntKind.i64.wrap ((a : Int) + 2 * (s : Int) + 2 * (s : Int)) = (a : Int) + 2 * (s : Int) + 2 * (s : Int) := by rw [IntKind.wrap_i64]; omega
            by_cases hle : (a : Int) + 2 * (s : Int) ≤ (d.size : Int)
            · have hc := MRG.out a (a + s) (a + 2 * s) dk wr HP.out.1.1 S1.out (by omega) (by omega) (by omega)
              rw [show ((a + s : Nat) : Int) = (a : Int) + (s : Int) by omega, show ((a + 2 * s : Nat) : Int) = (a : Int) + 2 * (s : Int) by omega] at hc
              go_wp2_with (go_at_call 69; refine hc.mono ?_; rintro e w' ⟨rfl, hh⟩)
              obtain ⟨d2, HM, S2⟩ := hh
              have H4 : Hid (PermIn 0 d.size d d2 ∧ Ph1 r ix s (a + 2 * s) d.size d2) := by
                have hk := HP.out.1.1
                exact ⟨permIn_trans _ _ _ _ _ HP.out.1 (permIn_mono _ _ _ _ _ _ (Nat.zero_le _) (by omega) (by omega) HM.out.1), ph1_next HS.out HP.out.2 HA.out (by omega) (by omega) HM.out⟩
              have HA2 : Hid ((a + 2 * s) % (2 * s) = 0) := by
                show (a + 2 * s) % (2 * s) = 0
                rw [Nat.add_mod_right]; exact HA.out
              go_roundg (d.size - (a + 2 * s))
              case measure => omega
              case rel => exact ⟨a + 2 * s, d2, by go_num, by go_num, by omega, HA2, Nat.le_refl _, H4, S2⟩
            · by_cases hmn : (a : Int) + (s : Int) < (d.size : Int)
              · have hc := MRG.out a (a + s) d.size dk wr HP.out.1.1 S1.out (by omega) (by omega) (Nat.le_refl _)
                rw [show ((a + s : Nat) : Int) = (a : Int) + (s : Int) by omega] at hc
                go_wp2_with (go_at_call 69; refine hc.mono ?_; rintro e w' ⟨rfl, hh⟩)
                obtain ⟨d2, HM, S2⟩ := hh
                have H4 : Hid (PermIn 0 d.size d d2 ∧ PhS r ix (s * 2) d.size d2) := by
                  have hk := HP.out.1.1
                  exact ⟨permIn_trans _ _ _ _ _ HP.out.1 (permIn_mono _ _ _ _ _ _ (Nat.zero_le _) (by omega) (by omega) HM.out.1), ph1_end HS.out HP.out.2 HA.out had (by omega) (by omega) (.inr ⟨by omega, HM.out⟩)⟩
                have hs8 : s * 2 = 20 ∨ s * 2 = 40 ∨ s * 2 = 80 := by have := HS.out; omega
                go_roundg (d.size - s * 2)
                case measure => omega
                case rel => exact ⟨s * 2, d2, by go_num, hs8, Nat.le_refl _, H4, S2⟩
              · have H4 : Hid (PermIn 0 d.size d dk ∧ PhS r ix (s * 2) d.size dk) := by
                  have hk := HP.out.1.1
                  exact ⟨HP.out.1, ph1_end HS.out HP.out.2 HA.out had (by omega) (by omega) (.inl ⟨rfl, by omega⟩)⟩
                have hs8 : s * 2 = 20 ∨ s * 2 = 40 ∨ s * 2 = 80 := by have := HS.out; omega
                go_wp2
                go_roundg (d.size - s * 2)
                case measure => omega
                case rel => exact ⟨s * 2, dk, by go_num, hs8, Nat.le_refl _, H4, S1⟩
        · have H4 : Hid (PermIn 0 d.size d dk ∧ SortS r ix 0 d.size dk) := by
            have h := HP.out.2.1 0 (Nat.zero_mod _)
            rw [Nat.min_eq_right (by omega)] at h
            exact ⟨HP.out.1, h⟩
          go_wp2
          go_end0
          exact ⟨rfl, dk, H4, S1⟩
set_option maxHeartbeats 16000000 in
theorem Tryd.sortStableS (enc : α → Value) (cf : α → α → Int) (r : α → Int) (ix : α → Nat) (hcf : ∀ x y, cf x y < 0 ↔ r y < r x) (g : Nat) (cb : Array Value) (blk off cap : Nat) (d : Array α) (w : World)
    (eg : ∀ args w, (callFunc g args).run Tryd.prog w = .ok (.enter g args) w) (hcmp : CmpLays1 Tryd.prog g cb enc cf blk off d.size w) (R : Row1 enc w blk off d) (hinc : ∀ p q, p < q → q < d.size → ix d[p]! < ix d[q]!) (hsz : d.size ≤ 64) :
    Calls Tryd.prog 51 #[.slice (some ⟨blk, off, none⟩) d.size cap, .func (.func g) #[] cb] w fun e w' => e = .returned (.tuple #[]) ∧ ∃ d', PermIn 0 d.size d d' ∧ SortS r ix 0 d.size d' ∧ SW enc w blk off d' w' := by
  have e60 : ∀ args w, (callFunc 60 args).run Tryd.prog w = .ok (.enter 60 args) w := enters_of Tryd.func60 (by kernel_rfl) rfl
  have hc := Tryd.stableS enc cf r ix hcf g cb blk off cap d w eg hcmp R hinc hsz
  clear hcmp hcf R eg hinc hsz
  go_enter Tryd.func51, Tryd.ntmps51
  go_wp2_with (go_at_call 60; refine hc.mono ?_; rintro e w' ⟨rfl, hh⟩)
  go_end0
  obtain ⟨d', H, S⟩ := hh
  exact ⟨rfl, d', H.out.1, H.out.2, S.out⟩
end Go.Proofs

