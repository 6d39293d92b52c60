/- LRe. -/
import Derived.Test.YtmjdiadpdbdedaaChecked
import Derived.WalkKit
import Derived.Laws.IdiomCopy
import Derived.Deep.QuietTactic
import Derived.BigQuiet
import Derived.Lib.Hide
import Derived.OpenShut
import Derived.StillTailTactics
import Derived.Deep.RegionWith
import Derived.Deep.RegionLaw
import Derived.Test.YtmjdiadpdbdedaaBase
import Derived.Test.YtmjdiadpdbdedaaCalm
import Derived.Test.YtmjdiadpdbdedaaLa
import Derived.Test.YtmjdiadpdbdedaaLaR
import Derived.Test.YtmjdiadpdbdedaaLaU
import Derived.Test.YtmjdiadpdbdedaaLaP
namespace Go.Proofs.Ytmjdiadpdbdedaa
open Go.RowKit
set_option linter.unusedVariables false
set_option linter.unusedSimpArgs false

set_option maxRecDepth 100000 in
set_option maxHeartbeats 3200000 in
theorem LadderReaches_walk (p0 : Int) (A : Option Addr) (n cap : Nat) (zs : List Int) (k : Int) (W : World) (w0 : (Lit.int .u8 p0).wf = true) (hr : Reads EWt W A n zs) (hw : ∀ y, y ∈ zs → (Lit.int .u16 y).wf = true) (hcap : n ≤ cap ∧ cap ≤ maxLen) (wk : (Lit.int .u8 k).wf = true) :
    Calls Try.prog 4 #[.int .u8 p0, .slice A n cap, .int .u8 k] W fun e w' => e = .returned (.bool true) ∧ Below W.heap.size W w' := by
  have hk := bounds_u8 wk
  clear wk
  by_cases hn : n ≤ 8
  · have e0 : ¬ (8 : Int) < (n : Int) := by omega
    by_cases hz : n = 0
    · subst hz
      go_enter Try.func4, Try.ntmps4
      go_wp2_with fail
      refine (steps_any _).mono ?_
      rintro e w1 ⟨rfl, F1⟩
      go_wp2_with fail
      refine (steps_any _).mono ?_
      rintro e w2 ⟨rfl, F2⟩
      go_wp2
      go_ret
      exact ⟨rfl, (F1.step F2 nop).below⟩
    · have ez : ((n : Int) == 0) = false := by simp; omega
      have HZ := Lib.hid hz
      clear hz
      go_enter Try.func4, Try.ntmps4
      go_wp2_with fail
      refine (steps_any _).mono ?_
      rintro e w1 ⟨rfl, F1⟩
      go_wp2_with fail
      refine (rule_reads _ p0 A n cap zs w0 (hr.fr F1 (fun _ _ x => x)) hw hn).mono ?_
      rintro e w2 ⟨p, m, c, A2, xs, rfl, hm, hmc, HR, r2, hA2, F2, hp1, hp3⟩
      have HM := Lib.hid hm
      have hm4 : m ≤ 4 := by omega
      have hmn : n = 0 ∨ 1 ≤ m := by omega
      clear hm
      have B0 : (w2.alloc (.cells #[.int .u8 0, .int .i64 0, .int .i64 0, .int .i64 0, .int .i64 0, .int .i64 0, .int .u8 0, .bool false, .slice none 0 0] 26)).heap[w2.heap.size]? = some (.cells #[.int .u8 0, .int .i64 0, .int .i64 0, .int .i64 0, .int .i64 0, .int .i64 0, .int .u8 0, .bool false, .slice none 0 0] 26 (0, 0)) := alloc_is _ rfl
      have F3 := (F1.step F2 nop).alloc (.cells #[.int .u8 0, .int .i64 0, .int .i64 0, .int .i64 0, .int .i64 0, .int .i64 0, .int .u8 0, .bool false, .slice none 0 0] 26)
      have r3 := r2.alloc (.cells #[.int .u8 0, .int .i64 0, .int .i64 0, .int .i64 0, .int .i64 0, .int .i64 0, .int .u8 0, .bool false, .slice none 0 0] 26)
      have hb : W.heap.size ≤ w2.heap.size := (F1.step F2 nop).size
      generalize hw3 : w2.alloc (.cells #[.int .u8 0, .int .i64 0, .int .i64 0, .int .i64 0, .int .i64 0, .int .i64 0, .int .u8 0, .bool false, .slice none 0 0] 26) = w3 at B0 F3 r3
      clear F1 F2 r2
      obtain ⟨c0, c1, c2, c3, c4, c5, c6, c7, c8⟩ := cells9 B0
      have z0 := frozen_of B0 0
      have z1 := frozen_of B0 1
      have z2 := frozen_of B0 2
      have z3 := frozen_of B0 3
      have z4 := frozen_of B0 4
      have z5 := frozen_of B0 5
      have z6 := frozen_of B0 6
      have z7 := frozen_of B0 7
      have z8 := frozen_of B0 8
      have hm1 : 1 ≤ m := by have := HZ.out; omega
      obtain ⟨q, hq⟩ : ∃ q : Nat, (q : Int) = k % (m : Int) := ⟨(k % (m : Int)).toNat, by have := Int.emod_nonneg k (show (m : Int) ≠ 0 by omega); omega⟩
      have hqm : q < m := by have := Int.emod_lt_of_pos k (show (0 : Int) < (m : Int) by omega); omega
      have e1 : k % (m : Int) = (q : Int) := hq.symm
      have e2 : ((m : Int) == 0) = false := by simp; omega
      have e3 : Int.tmod k (m : Int) = (q : Int) := by rw [Int.tmod_eq_emod_of_nonneg hk.1]; exact e1
      clear hq
      go_wp2_with fail
      have B4 := put9 (y0 := .int .u8 0) (y1 := .int .i64 0) (y2 := .int .i64 0) (y3 := .int .i64 0) (y4 := .int .i64 0) (y5 := .int .i64 0) (y6 := .int .u8 p) (y7 := .bool false) (y8 := .slice A2 m c) B0
      have F5 := (Fr.refl (fun i => i = w2.heap.size) w3).put9 (b := w2.heap.size) (fun _ => rfl) (.int .u8 0) (.int .i64 0) (.int .i64 0) (.int .i64 0) (.int .i64 0) (.int .i64 0) (.int .u8 p) (.bool false) (.slice A2 m c)
      have F4 := F3.put9 (b := w2.heap.size) (fun h => by omega) (.int .u8 0) (.int .i64 0) (.int .i64 0) (.int .i64 0) (.int .i64 0) (.int .i64 0) (.int .u8 p) (.bool false) (.slice A2 m c)
      have r4 : Reads ESt _ A2 m xs := r3.fr F5 (fun ad h1 (h2 : ad.block = w2.heap.size) => by have := hA2 ad h1; omega)
      clear F5 c0 c1 c2 c3 c4 c5 c6 c7 c8 z0 z1 z2 z3 z4 z5 z6 z7 z8 F3 r3 B0 hw3 hA2
      generalize (((((((((w3.setCell ⟨w2.heap.size, 0, none⟩ (.int .u8 0)).setCell ⟨w2.heap.size, 1, none⟩ (.int .i64 0)).setCell ⟨w2.heap.size, 2, none⟩ (.int .i64 0)).setCell ⟨w2.heap.size, 3, none⟩ (.int .i64 0)).setCell ⟨w2.heap.size, 4, none⟩ (.int .i64 0)).setCell ⟨w2.heap.size, 5, none⟩ (.int .i64 0)).setCell ⟨w2.heap.size, 6, none⟩ (.int .u8 p)).setCell ⟨w2.heap.size, 7, none⟩ (.bool false)).setCell ⟨w2.heap.size, 8, none⟩ (.slice A2 m c)) = w4 at B4 F4 r4 ⊢
      clear w3
      generalize w2.heap.size = bR at B4 hb ⊢
      clear w2
      have HW := Lib.hid HR.waits
      have hm8 : m ≤ 8 := by omega
      have HX := Lib.hid r4.1
      clear hmn
      obtain ⟨-, -, -, -, -, -, -, -, c8⟩ := cells9 B4
      have HA1 := Lib.hid (rc_at HR (n := q + 1) (by have := HX.out; omega))
      have HA2 := Lib.hid (rc_ahead HR (n := q) (by have := HX.out; omega))
      have hs := sm_in HR.waits (q + 1) (by have := HX.out; omega)
      have HM1 := Lib.hid (show min (1 + (q : Int)).toNat m = q + 1 by omega)
      go_wp2_with fail
      refine (sum_any _ A2 m c xs _ r4 hm8 hmc HW.out).mono ?_
      rintro e w5 ⟨rfl, F5⟩
      rw [HM1.out]
      have c85 : w5.cell? ⟨bR, 8, none⟩ = some (.slice A2 m c) := (cells9 (F5.at_ B4 (fun x => x))).2.2.2.2.2.2.2.2
      have B5 := F5.at_ B4 (fun x => x)
      have r5 := r4.fr F5 (fun _ _ x => x)
      have F45 := Lib.hid (F4.step F5 nop)
      clear F4 F5 r4 B4 c8
      generalize sm xs (q + 1) = s at hs HA1 HA2 ⊢
      go_wp2_with fail
      refine (reached_any _ A2 m c xs _ r5 hm8 hmc HW.out).mono ?_
      rintro e w6 ⟨rfl, F6⟩
      rw [HA1.out]
      have c86 : w6.cell? ⟨bR, 8, none⟩ = some (.slice A2 m c) := (cells9 (F6.at_ B5 (fun x => x))).2.2.2.2.2.2.2.2
      have r6 := r5.fr F6 (fun _ _ x => x)
      have F456 := Lib.hid (F45.out.step F6 nop)
      have eq1 : (((q + 1 : Nat) : Int) == 1 + (q : Int)) = true := by simp; omega
      clear F6 r5 B5 c85 F45
      go_wp2_with fail
      refine (reached_any _ A2 m c xs _ r6 hm8 hmc HW.out).mono ?_
      rintro e w7 ⟨rfl, F7⟩
      rw [HA2.out]
      have F8 := Lib.hid (F456.out.step F7 nop)
      clear F7 F456
      have eq2 : ((q : Int) == 1 + (q : Int) - 1) = true := by simp; omega
      go_wp2
      go_ret
      exact ⟨rfl, F8.out.below⟩
  · have e0 : (8 : Int) < (n : Int) := by omega
    go_enter Try.func4, Try.ntmps4
    go_wp2_with fail
    refine (steps_any _).mono ?_
    rintro e w1 ⟨rfl, F1⟩
    go_wp2_with fail
    refine (steps_any _).mono ?_
    rintro e w2 ⟨rfl, F2⟩
    go_wp2
    go_ret
    exact ⟨rfl, (F1.step F2 nop).below⟩

end Go.Proofs.Ytmjdiadpdbdedaa
