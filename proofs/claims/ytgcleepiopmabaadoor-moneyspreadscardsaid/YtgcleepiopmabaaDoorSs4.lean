/- The library's stable sort: a permutation. -/
import Derived.Test.YtgcleepiopmabaaDoorSs3
import Derived.Sort.LotA
namespace Go.Proofs
open Go.Shelf Go.RowKit Go.Lib Go.Sort
set_option linter.unusedSimpArgs false
set_option linter.unusedVariables false
def Tryd.renIS : Go.Shelf.Ren := ⟨fun | 20 => 68 | n => n, fun | 0 => 0 | 3 => 3 | 4 => 4 | 22 => 50 | 24 => 3 | 25 => 79 | n => n, fun | n => n⟩
theorem Tryd.laysIS : SlLaysF.n20 Tryd.prog Tryd.renIS := {
  mixed := by kernel_rfl
  f20 := ⟨Tryd.f68.name, by decide, Tryd.func68.trans (congrArg some (by kernel_rfl))⟩
  t0 := Tryd.underlying0
  a0 := Tryd.isAgg0
  z0 := Tryd.sizeOf0
  v0 := Tryd.zeroValue0
  t3 := Tryd.underlying3
  a3 := Tryd.isAgg3
  z3 := Tryd.sizeOf3
  v3 := Tryd.zeroValue3
  t4 := Tryd.underlying4
  a4 := Tryd.isAgg4
  z4 := Tryd.sizeOf4
  v4 := Tryd.zeroValue4
  t22 := Tryd.underlying50
  a22 := Tryd.isAgg50
  z22 := Tryd.sizeOf50
  v22 := Tryd.zeroValue50
  a24 := Tryd.isAgg3
  z24 := Tryd.sizeOf3
  t25 := Tryd.underlying79
  a25 := Tryd.isAgg79
  z25 := Tryd.sizeOf79
  v25 := Tryd.zeroValue79 }
variable {α : Type} [Inhabited α]
theorem Tryd.insP (enc : α → Value) (cf : α → α → Int) (g : Nat) (cb : Array Value) (blk off cap a b : Nat) (d0 d : Array α) (w0 w : World)
    (eg : ∀ args w, (callFunc g args).run Tryd.prog w = .ok (.enter g args) w) (hcmp : CmpLays1 Tryd.prog g cb enc cf blk off d0.size w0) (hlt : SWO (ltOf cf)) (R : Row1 enc w0 blk off d0) (hs : d0.size = d.size) (S : PS enc w0 blk off d w) (hab : a ≤ b) (hb : b ≤ d.size) (hsz : d.size < 4611686018427387904) :
    Calls Tryd.prog 68 #[.slice (some ⟨blk, off, none⟩) d.size cap, .int .i64 a, .int .i64 b, .func (.func g) #[] cb] w fun e w' => e = .returned (.tuple #[]) ∧ Aside (PS enc w0 blk off d w') := by
  obtain ⟨dk, HP, HS⟩ := S
  have h := Any.insertionSortCmpFunc_s Tryd.laysIS enc cf g cb blk off cap a b d0 dk w0 w eg hcmp R (by rw [HP.1]; exact hs) HS hab (by rw [HP.1]; exact hb) (by rw [HP.1]; exact hsz)
  rw [HP.1] at h
  refine h.mono ?_
  rintro e w' ⟨rfl, S2⟩
  have hp := (insertionSort_holds hlt dk a b hab (by rw [HP.1]; exact hb)).1
  exact ⟨rfl, _, permIn_trans _ _ _ _ _ HP (permIn_mono _ _ _ _ _ _ (Nat.zero_le _) hb (by rw [HP.1]; exact Nat.le_refl _) hp), S2⟩

set_option maxHeartbeats 16000000 in
set_option maxRecDepth 1000000 in
theorem Tryd.stable (enc : α → Value) (cf : α → α → Int) (g : Nat) (cb : Array Value) (blk off cap : Nat) (d0 d : Array α) (w0 w : World)
    (eg : ∀ args w, (callFunc g args).run Tryd.prog w = .ok (.enter g args) w) (hcmp : CmpLays1 Tryd.prog g cb enc cf blk off d0.size w0) (hlt : SWO (ltOf cf)) (R : Row1 enc w0 blk off d0) (hs : d0.size = d.size) (S : PS enc w0 blk off d w) (hsz : d.size < 1152921504606846976) :
    Calls Tryd.prog 60 #[.slice (some ⟨blk, off, none⟩) d.size cap, .int .i64 d.size, .func (.func g) #[] cb] w fun e w' => e = .returned (.tuple #[]) ∧ Aside (PS enc w0 blk off d w') := by
  have mixed := Go.Rx.mixedT
  have e68 : ∀ args w, (callFunc 68 args).run Tryd.prog w = .ok (.enter 68 args) w := enters_of Tryd.func68 (by kernel_rfl) rfl
  have e69 : ∀ args w, (callFunc 69 args).run Tryd.prog w = .ok (.enter 69 args) w := enters_of Tryd.func69 (by kernel_rfl) rfl
  have INS : Aside (∀ (a b : Nat) (w : World), PS enc w0 blk off d w → a ≤ b → b ≤ d.size → Calls Tryd.prog 68 #[.slice (some ⟨blk, off, none⟩) d.size cap, .int .i64 a, .int .i64 b, .func (.func g) #[] cb] w fun e w' => e = .returned (.tuple #[]) ∧ Aside (PS enc w0 blk off d w')) :=
    fun a b w S hab hb => Tryd.insP enc cf g cb blk off cap a b d0 d w0 w eg hcmp hlt R hs S hab hb (by omega)
  have MRG : Aside (∀ (a m b : Nat) (w : World), PS enc w0 blk off d w → a < m → m < b → b ≤ d.size → Calls Tryd.prog 69 #[.slice (some ⟨blk, off, none⟩) d.size cap, .int .i64 a, .int .i64 m, .int .i64 b, .func (.func g) #[] cb] w fun e w' => e = .returned (.tuple #[]) ∧ Aside (PS enc w0 blk off d w')) :=
    fun a m b w S h1 h2 h3 => Tryd.symMerge enc cf g cb blk off cap d0 d w0 eg hcmp R hs (by omega) (b - a) a m b w (Nat.le_refl _) S h1 h2 h3
  have S0 : Aside (PS enc w0 blk off d w) := S
  clear S hcmp hlt R eg
  go_enter Tryd.func60, Tryd.ntmps60
  go_wp2
  go_loopg [7, 8] d.size (fun g1 va vb wr => ∃ a : Nat, va = .int .i64 a ∧ vb = .int .i64 ((a : Int) + 20) ∧ a ≤ d.size ∧ d.size - a ≤ g1 ∧ Aside (PS enc w0 blk off d wr))
  case atStart => exact ⟨0, rfl, rfl, Nat.zero_le _, by omega, S0⟩
  case round =>
    clear S0
    obtain ⟨a, rfl, rfl, had, hg, S1⟩ := hrel
    have r1 : IntKind.i64.wrap ((a : Int) + 20 + 20) = (a : Int) + 20 + 20 := by rw [IntKind.wrap_i64]; omega
    by_cases hle : (a : Int) + 20 ≤ (d.size : Int)
    · have hc := INS.out a (a + 20) wr S1.out (by omega) (by omega)
      rw [show ((a + 20 : Nat) : Int) = (a : Int) + 20 by omega] at hc
      go_wp2_with (go_at_call 68; refine hc.mono ?_; rintro e w' ⟨rfl, hh⟩)
      go_roundg (d.size - (a + 20))
      case measure => omega
      case rel => exact ⟨a + 20, by go_num, by go_num, by omega, Nat.le_refl _, hh⟩
    · have hc := INS.out a d.size wr S1.out had (Nat.le_refl _)
      go_wp2_with (go_at_call 68; refine hc.mono ?_; rintro e w' ⟨rfl, hh⟩)
      clear hc S1 hle r1 hg
      go_loopg [6] d.size (fun g1 vs wr => ∃ s : Nat, vs = .int .i64 s ∧ 1 ≤ s ∧ s ≤ 2 * d.size + 20 ∧ d.size - s ≤ g1 ∧ Aside (PS enc w0 blk off d wr))
      case atStart => exact ⟨20, rfl, by omega, by omega, by omega, hh⟩
      case round =>
        clear hh
        obtain ⟨s, rfl, hs1, hs2, hg, S1⟩ := hrel
        by_cases hlt : (s : Int) < (d.size : Int)
        · have r1 : IntKind.i64.wrap (2 * (s : Int)) = 2 * (s : Int) := by rw [IntKind.wrap_i64]; omega
          have r2 : IntKind.i64.wrap ((s : Int) * 2) = (s : Int) * 2 := by rw [IntKind.wrap_i64]; omega
          go_wp2
          go_loopg [7, 8] d.size (fun g2 va vb wr => ∃ a : Nat, va = .int .i64 a ∧ vb = .int .i64 ((a : Int) + 2 * (s : Int)) ∧ a ≤ d.size ∧ d.size - a ≤ g2 ∧ Aside (PS enc w0 blk off d wr))
          case atStart => exact ⟨0, rfl, by go_num, Nat.zero_le _, by omega, S1⟩
          case round =>
            clear S1
            obtain ⟨a, rfl, rfl, had, hg2, S1⟩ := hrel
            have r3 : IntKind.i64.wrap ((a : Int) + (s : Int)) = (a : Int) + (s : Int) := by rw [IntKind.wrap_i64]; omega
            have r4 : IntKind.i64.wrap ((a : Int) + 2 * (s : Int) + 2 * (s : Int)) = (a : Int) + 2 * (s : Int) + 2 * (s : Int) := by rw [IntKind.wrap_i64]; omega
            by_cases hle : (a : Int) + 2 * (s : Int) ≤ (d.size : Int)
            · have hc := MRG.out a (a + s) (a + 2 * s) wr S1.out (by omega) (by omega) (by omega)
              rw [show ((a + s : Nat) : Int) = (a : Int) + (s : Int) by omega, show ((a + 2 * s : Nat) : Int) = (a : Int) + 2 * (s : Int) by omega] at hc
              go_wp2_with (go_at_call 69; refine hc.mono ?_; rintro e w' ⟨rfl, hh⟩)
              go_roundg (d.size - (a + 2 * s))
              case measure => omega
              case rel => exact ⟨a + 2 * s, by go_num, by go_num, by omega, Nat.le_refl _, hh⟩
            · by_cases hmn : (a : Int) + (s : Int) < (d.size : Int)
              · have hc := MRG.out a (a + s) d.size wr S1.out (by omega) (by omega) (Nat.le_refl _)
                rw [show ((a + s : Nat) : Int) = (a : Int) + (s : Int) by omega] at hc
                go_wp2_with (go_at_call 69; refine hc.mono ?_; rintro e w' ⟨rfl, hh⟩)
                go_roundg (d.size - 2 * s)
                case measure => omega
                case rel => exact ⟨2 * s, by go_num, by omega, by omega, Nat.le_refl _, hh⟩
              · go_wp2
                go_roundg (d.size - 2 * s)
                case measure => omega
                case rel => exact ⟨2 * s, by go_num, by omega, by omega, Nat.le_refl _, S1⟩
        · go_wp2
          go_end0
          exact ⟨rfl, S1⟩
set_option maxHeartbeats 16000000 in
theorem Tryd.sortStable (enc : α → Value) (cf : α → α → Int) (g : Nat) (cb : Array Value) (blk off cap : Nat) (d : Array α) (w : World)
    (eg : ∀ args w, (callFunc g args).run Tryd.prog w = .ok (.enter g args) w) (hcmp : CmpLays1 Tryd.prog g cb enc cf blk off d.size w) (hlt : SWO (ltOf cf)) (R : Row1 enc w blk off d) (hsz : d.size < 1152921504606846976) :
    Calls Tryd.prog 51 #[.slice (some ⟨blk, off, none⟩) d.size cap, .func (.func g) #[] cb] w fun e w' => e = .returned (.tuple #[]) ∧ PS enc w blk off d w' := by
  have e60 : ∀ args w, (callFunc 60 args).run Tryd.prog w = .ok (.enter 60 args) w := enters_of Tryd.func60 (by kernel_rfl) rfl
  have hc := Tryd.stable enc cf g cb blk off cap d d w w eg hcmp hlt R rfl ⟨d, permIn_refl _ _ _, SW.start R.hH⟩ hsz
  clear hcmp hlt R eg
  go_enter Tryd.func51, Tryd.ntmps51
  go_wp2_with (go_at_call 60; refine hc.mono ?_; rintro e w' ⟨rfl, hh⟩)
  go_end0
  exact ⟨rfl, hh⟩
end Go.Proofs

