/- LSu. -/
import Derived.Test.YtmjdiadpdbdedaaChecked
import Derived.WalkKit
import Derived.Laws.IdiomCopy
import Derived.Deep.QuietTactic
import Derived.BigQuiet
import Derived.Lib.Hide
import Derived.OpenShut
import Derived.StillTailTactics
import Derived.Deep.RegionWith
import Derived.Deep.RegionLaw
import Derived.Test.YtmjdiadpdbdedaaBase
import Derived.Test.YtmjdiadpdbdedaaCalm
import Derived.Test.YtmjdiadpdbdedaaLa
import Derived.Test.YtmjdiadpdbdedaaLaR
import Derived.Test.YtmjdiadpdbdedaaLaU
import Derived.Test.YtmjdiadpdbdedaaLaP
namespace Go.Proofs.Ytmjdiadpdbdedaa
open Go.RowKit
set_option linter.unusedVariables false
set_option linter.unusedSimpArgs false

set_option maxRecDepth 100000 in
set_option maxHeartbeats 3200000 in
theorem LadderSums_walk (p0 : Int) (A : Option Addr) (n cap : Nat) (zs : List Int) (k d : Int) (W : World) (w0 : (Lit.int .u8 p0).wf = true) (hr : Reads EWt W A n zs) (hw : ∀ y, y ∈ zs → (Lit.int .u16 y).wf = true) (hcap : n ≤ cap ∧ cap ≤ maxLen) (wk : (Lit.int .i64 k).wf = true) (wd : (Lit.int .i64 d).wf = true) :
    Calls Try.prog 3 #[.int .u8 p0, .slice A n cap, .int .i64 k, .int .i64 d] W fun e w' => e = .returned (.bool true) ∧ Below W.heap.size W w' := by
  by_cases hn : n ≤ 8
  · have e0 : ¬ (8 : Int) < (n : Int) := by omega
    go_enter Try.func3, Try.ntmps3
    go_wp2_with fail
    refine (steps_any _).mono ?_
    rintro e w1 ⟨rfl, F1⟩
    go_wp2_with fail
    refine (rule_reads _ p0 A n cap zs w0 (hr.fr F1 (fun _ _ x => x)) hw hn).mono ?_
    rintro e w2 ⟨p, m, c, A2, xs, rfl, hm, hmc, HR, r2, hA2, F2, hp1, hp3⟩
    have HM := Lib.hid hm
    have hm4 : m ≤ 4 := by omega
    have hmn : n = 0 ∨ 1 ≤ m := by omega
    clear hm
    have B0 : (w2.alloc (.cells #[.int .u8 0, .int .i64 0, .int .i64 0, .int .i64 0, .int .i64 0, .int .i64 0, .int .u8 0, .bool false, .slice none 0 0] 26)).heap[w2.heap.size]? = some (.cells #[.int .u8 0, .int .i64 0, .int .i64 0, .int .i64 0, .int .i64 0, .int .i64 0, .int .u8 0, .bool false, .slice none 0 0] 26 (0, 0)) := alloc_is _ rfl
    have F3 := (F1.step F2 nop).alloc (.cells #[.int .u8 0, .int .i64 0, .int .i64 0, .int .i64 0, .int .i64 0, .int .i64 0, .int .u8 0, .bool false, .slice none 0 0] 26)
    have r3 := r2.alloc (.cells #[.int .u8 0, .int .i64 0, .int .i64 0, .int .i64 0, .int .i64 0, .int .i64 0, .int .u8 0, .bool false, .slice none 0 0] 26)
    have hb : W.heap.size ≤ w2.heap.size := (F1.step F2 nop).size
    generalize hw3 : w2.alloc (.cells #[.int .u8 0, .int .i64 0, .int .i64 0, .int .i64 0, .int .i64 0, .int .i64 0, .int .u8 0, .bool false, .slice none 0 0] 26) = w3 at B0 F3 r3
    clear F1 F2 r2
    obtain ⟨c0, c1, c2, c3, c4, c5, c6, c7, c8⟩ := cells9 B0
    have z0 := frozen_of B0 0
    have z1 := frozen_of B0 1
    have z2 := frozen_of B0 2
    have z3 := frozen_of B0 3
    have z4 := frozen_of B0 4
    have z5 := frozen_of B0 5
    have z6 := frozen_of B0 6
    have z7 := frozen_of B0 7
    have z8 := frozen_of B0 8
    go_wp2_with fail
    have B4 := put9 (y0 := .int .u8 0) (y1 := .int .i64 0) (y2 := .int .i64 0) (y3 := .int .i64 0) (y4 := .int .i64 0) (y5 := .int .i64 0) (y6 := .int .u8 p) (y7 := .bool false) (y8 := .slice A2 m c) B0
    have F5 := (Fr.refl (fun i => i = w2.heap.size) w3).put9 (b := w2.heap.size) (fun _ => rfl) (.int .u8 0) (.int .i64 0) (.int .i64 0) (.int .i64 0) (.int .i64 0) (.int .i64 0) (.int .u8 p) (.bool false) (.slice A2 m c)
    have F4 := F3.put9 (b := w2.heap.size) (fun h => by omega) (.int .u8 0) (.int .i64 0) (.int .i64 0) (.int .i64 0) (.int .i64 0) (.int .i64 0) (.int .u8 p) (.bool false) (.slice A2 m c)
    have r4 : Reads ESt _ A2 m xs := r3.fr F5 (fun ad h1 (h2 : ad.block = w2.heap.size) => by have := hA2 ad h1; omega)
    clear F5 c0 c1 c2 c3 c4 c5 c6 c7 c8 z0 z1 z2 z3 z4 z5 z6 z7 z8 F3 r3 B0 hw3 hA2
    generalize (((((((((w3.setCell ⟨w2.heap.size, 0, none⟩ (.int .u8 0)).setCell ⟨w2.heap.size, 1, none⟩ (.int .i64 0)).setCell ⟨w2.heap.size, 2, none⟩ (.int .i64 0)).setCell ⟨w2.heap.size, 3, none⟩ (.int .i64 0)).setCell ⟨w2.heap.size, 4, none⟩ (.int .i64 0)).setCell ⟨w2.heap.size, 5, none⟩ (.int .i64 0)).setCell ⟨w2.heap.size, 6, none⟩ (.int .u8 p)).setCell ⟨w2.heap.size, 7, none⟩ (.bool false)).setCell ⟨w2.heap.size, 8, none⟩ (.slice A2 m c)) = w4 at B4 F4 r4 ⊢
    clear w3
    generalize w2.heap.size = bR at B4 hb ⊢
    clear w2
    have HW := Lib.hid HR.waits
    have hm8 : m ≤ 8 := by omega
    clear hmn
    have hl8 := lt_of B4
    have HB4 := Lib.hid B4
    have HF4 := Lib.hid F4
    clear B4 F4 wk wd
    go_loopw [10] (fun i wr => ∃ j : Int, i = .int .i64 j ∧ -1 ≤ j ∧ j ≤ 6 ∧ Fr (fun _ => False) w4 wr) (fun i _ => (6 - (intOf i)).toNat)
    case atStart => exact ⟨-1, rfl, by omega, by omega, Fr.refl _ _⟩
    case round =>
      obtain ⟨j, rfl, hj1, hj6, Fk⟩ := hrel
      have Bk := Fk.at_ HB4.out (fun x => x)
      have N8 : ∀ x : Calm wr, x.to.cell? ⟨bR, 8, none⟩ = some (.slice A2 m c) := Calm.cell (lt_of Bk) (cells9 Bk).2.2.2.2.2.2.2.2
      have rk := r4.fr Fk (fun _ _ x => x)
      have HFk := Lib.hid Fk
      clear Bk Fk
      by_cases h6 : j < 6
      · go_wp2_with fail
        (refine wp_region_calm (by kernel_rfl) (by kernel_rfl) ?_; (repeat (go_big_quiet_step (first
          | (go_at_call 15; exact Calm.of (sum_any _ A2 m c xs j (rk.fr (Calm.fr _) (fun _ _ x => x)) hm8 hmc HW.out))
          | (go_at_call 16; exact Calm.of (rsum_fr _ A2 m c xs j (rk.fr (Calm.fr _) (fun _ _ x => x)) hm8 HW.out))))); refine wpQuiet_nil ?_; intro _ hwq0; obtain ⟨nq, hwq1⟩ := hwq0; subst hwq1)
        have HF2 := Lib.hid (HFk.out.step nq.fr nop)
        go_wp2
        go_roundw
        case rel => exact ⟨j + 1, by go_num, by omega, by omega, HF2.out⟩
        case measure => simp [intOf]; omega
      · go_wp2_with fail
        (refine wp_region_calm (by kernel_rfl) (by kernel_rfl) ?_; (repeat (go_big_quiet_step (first
          | (go_at_call 15; exact Calm.of (sum_any _ A2 m c xs k (rk.fr (Calm.fr _) (fun _ _ x => x)) hm8 hmc HW.out))
          | (go_at_call 16; exact Calm.of (rsum_fr _ A2 m c xs k (rk.fr (Calm.fr _) (fun _ _ x => x)) hm8 HW.out))
          | (go_at_call 17; exact Calm.of (reached_any _ A2 m c xs d (rk.fr (Calm.fr _) (fun _ _ x => x)) hm8 hmc HW.out))
          | (go_at_call 18; exact Calm.of (rreached_any _ A2 m c xs d (rk.fr (Calm.fr _) (fun _ _ x => x)) hm8 HW.out))))); refine wpQuiet_nil ?_; intro _ hwq0; obtain ⟨nq, hwq1⟩ := hwq0; subst hwq1)
        have HF2 := Lib.hid ((HF4.out.step HFk.out nop).step nq.fr nop)
        go_wp2
        go_ret
        exact ⟨rfl, HF2.out.below⟩
  · have e0 : (8 : Int) < (n : Int) := by omega
    go_enter Try.func3, Try.ntmps3
    go_wp2_with fail
    refine (steps_any _).mono ?_
    rintro e w1 ⟨rfl, F1⟩
    go_wp2_with fail
    refine (steps_any _).mono ?_
    rintro e w2 ⟨rfl, F2⟩
    go_wp2
    go_ret
    exact ⟨rfl, (F1.step F2 nop).below⟩

end Go.Proofs.Ytmjdiadpdbdedaa
