/- TLa. -/
import Derived.Test.YtgknbhjhkdohkaaChecked
import Derived.WalkKit
import Derived.Laws.IdiomCopy
import Derived.Deep.QuietTactic
import Derived.BigQuiet
import Derived.Lib.Hide
import Derived.OpenShut
import Derived.StillTailTactics
import Derived.Deep.RegionWith
import Derived.Deep.RegionLaw
import Derived.Deep.Slices
import Derived.Deep.RegionHeld3
import Derived.OwnWalk
import Derived.Test.YtgknbhjhkdohkaaBase
import Derived.Test.YtgknbhjhkdohkaaCalm
import Derived.Test.YtgknbhjhkdohkaaCalmT
import Derived.Test.YtgknbhjhkdohkaaCel
import Derived.Test.YtgknbhjhkdohkaaApp
import Derived.Test.YtgknbhjhkdohkaaClk
import Derived.Test.YtgknbhjhkdohkaaRV
import Derived.Test.YtgknbhjhkdohkaaRVB
import Derived.Test.YtgknbhjhkdohkaaRVC
import Derived.Test.YtgknbhjhkdohkaaRVA
import Derived.Test.YtgknbhjhkdohkaaCeS
import Derived.Test.YtgknbhjhkdohkaaCeF
import Derived.Test.YtgknbhjhkdohkaaCeG
import Derived.Test.YtgknbhjhkdohkaaCeN
import Derived.Test.YtgknbhjhkdohkaaCeX
import Derived.Test.YtgknbhjhkdohkaaCel9
import Derived.Test.YtgknbhjhkdohkaaTr
namespace Go.Proofs.Ytgknbhjhkdohkaa
open Go.RowKit
set_option linter.unusedVariables false
set_option linter.unusedSimpArgs false

/-! ### handbelllaw12.changes -/
set_option maxRecDepth 100000 in
set_option maxHeartbeats 3200000 in
theorem changes_any (w : World) : Calls Try.prog 8 #[] w fun e w' => e = .returned (.bool true) ∧ Fr (fun _ => False) w w' := by
  go_enter Try.func8, Try.ntmps8
  go_wp2_with fail
  refine (store_new _ 1).mono ?_
  rintro e w_1 ⟨s, g, sh, rfl, hsl, K_1, F_1, hup0⟩
  rw [show nsig 1 = 1 from by decide] at hsl K_1
  have hup := hup0
  have HUP := Lib.hid hup
  clear hup hup0
  have HSL := Lib.hid hsl
  clear hsl
  have FW2 := F_1
  go_wp2_with fail
  refine (put_x K_1 (x := 0) (i := 0) (by rfl) (by have := HSL.out; omega) 2 0 3 false).mono ?_
  rintro e w_3 ⟨rfl, K_3, F_3⟩
  clear K_1
  replace K_3 : St w_3 s g sh [(2, false, [(3, 2)])] := K_3
  have FW4 := FW2.step F_3 HUP.out
  clear FW2 F_3
  go_wp2_with fail
  refine (put_x K_3 (x := 0) (i := 0) (by rfl) (by have := HSL.out; omega) 5 0 9 false).mono ?_
  rintro e w_5 ⟨rfl, K_5, F_5⟩
  clear K_3
  replace K_5 : St w_5 s g sh [(5, false, [(3, 2), (9, 5)])] := K_5
  have FW6 := FW4.step F_5 HUP.out
  clear FW4 F_5
  have hsv : SmallV [(3, 2), (9, 5)] := fun y hy => by simp at hy; rcases hy with rfl | rfl <;> simp
  have HSV := Lib.hid hsv
  clear hsv
  go_wp2_with fail
  refine (change_x K_5 (x := 0) (i := 0) rfl (by have := HSL.out; omega) 6 4 (by unfold BigI; omega) (by unfold BigI; omega) HSV.out (r := (6, true)) (by decide)).mono ?_
  rintro e w_7 ⟨rfl, F_7⟩
  have K_7 := K_5.calm F_7
  clear K_5
  have FW8 := FW6.step F_7 nop
  clear FW6 F_7
  go_wp2_with fail
  refine (change_x K_7 (x := 0) (i := 0) rfl (by have := HSL.out; omega) 6 2 (by unfold BigI; omega) (by unfold BigI; omega) HSV.out (r := (0, true)) (by decide)).mono ?_
  rintro e w_9 ⟨rfl, F_9⟩
  have K_9 := K_7.calm F_9
  clear K_7
  have FW10 := FW8.step F_9 nop
  clear FW8 F_9
  go_wp2_with fail
  refine (change_x K_9 (x := 0) (i := 0) rfl (by have := HSL.out; omega) 9 3 (by unfold BigI; omega) (by unfold BigI; omega) HSV.out (r := (0, false)) (by decide)).mono ?_
  rintro e w_11 ⟨rfl, F_11⟩
  have K_11 := K_9.calm F_11
  clear K_9
  have FW12 := FW10.step F_11 nop
  clear FW10 F_11
  have HF := Lib.hid FW12
  clear FW12 K_11
  go_wp2
  go_ret
  exact ⟨rfl, HF.out⟩
set_option maxRecDepth 100000 in
set_option maxHeartbeats 3200000 in
theorem TrendNone_walk (x now span : Int) (W : World) (w0 : (Lit.int .i64 x).wf = true) (w1 : (Lit.int .i64 now).wf = true) (w2 : (Lit.int .i64 span).wf = true) :
    Calls Try.prog 5 #[.int .i64 x, .int .i64 now, .int .i64 span] W fun e w' => e = .returned (.bool true) ∧ Below W.heap.size W w' := by
  have hn : BigI now := bounds_i64 w1
  have hsp : BigI span := bounds_i64 w2
  have HN := Lib.hid hn
  have HSP := Lib.hid hsp
  clear w0 w1 w2 hn hsp
  by_cases hx : 0 ≤ x ∧ x < 2
  · obtain ⟨i, hi⟩ : ∃ i : Nat, x = (i : Int) := ⟨x.toNat, by omega⟩
    have hi3 : i < 2 := by omega
    have HX := Lib.hid hi
    have hdz : (([dz, (1, true, [])] : List Kd).getD i dz).2.2 = [] := by rcases (by omega : i = 0 ∨ i = 1) with rfl | rfl <;> rfl
    have HDZ := Lib.hid hdz
    clear hx hi hdz
    go_enter Try.func5, Try.ntmps5
    go_wp2_with fail
    refine (store_new _ 2).mono ?_
    rintro e w_1 ⟨s, g, sh, rfl, hsl, K_1, F_1, hup0⟩
    rw [show nsig 2 = 2 from by decide] at hsl K_1
    have hup := hup0
    have HUP := Lib.hid hup
    clear hup hup0
    have HSL := Lib.hid hsl
    clear hsl
    have FW2 := F_1
    go_wp2_with fail
    refine (put_x K_1 (x := 1) (i := 1) (by rfl) (by have := HSL.out; omega) 1 0 0 true).mono ?_
    rintro e w_3 ⟨rfl, K_3, F_3⟩
    clear K_1
    replace K_3 : St w_3 s g sh [dz, (1, true, [])] := K_3
    have FW4 := FW2.step F_3 HUP.out
    clear FW2 F_3
    go_wp2_with fail
    refine (change_x K_3 HX.out (by have := HSL.out; omega) now span HN.out HSP.out (by rw [HDZ.out]; intro y hy; simp at hy) (r := (0, false)) (by rw [HDZ.out]; rfl)).mono ?_
    rintro e w_5 ⟨rfl, F_5⟩
    have K_5 := K_3.calm F_5
    clear K_3
    have FW6 := FW4.step F_5 nop
    clear FW4 F_5
    go_wp2_with fail
    refine (change_nil _ x now span HN.out HSP.out).mono ?_
    rintro e w_7 ⟨rfl, F_7⟩
    have K_7 := K_5.calm F_7
    clear K_5
    have FW8 := FW6.step F_7 nop
    clear FW6 F_7
    go_wp2_with fail
    refine (changes_any _).mono ?_
    rintro e w_9 ⟨rfl, F_9⟩
    have K_9 := K_7.calm F_9
    clear K_7
    have FW10 := FW8.step F_9 nop
    clear FW8 F_9
    have HF := Lib.hid FW10
    clear FW10 K_9
    go_wp2
    go_ret
    exact ⟨rfl, HF.out.below⟩
  · have hx2 : x < 0 ∨ 2 ≤ x := by omega
    have HX := Lib.hid hx2
    clear hx hx2
    go_enter Try.func5, Try.ntmps5
    go_wp2_with fail
    refine (store_new _ 2).mono ?_
    rintro e w_1 ⟨s, g, sh, rfl, hsl, K_1, F_1, hup0⟩
    rw [show nsig 2 = 2 from by decide] at hsl K_1
    have hup := hup0
    have HUP := Lib.hid hup
    clear hup hup0
    have HSL := Lib.hid hsl
    clear hsl
    have FW2 := F_1
    go_wp2_with fail
    refine (put_x K_1 (x := 1) (i := 1) (by rfl) (by have := HSL.out; omega) 1 0 0 true).mono ?_
    rintro e w_3 ⟨rfl, K_3, F_3⟩
    clear K_1
    replace K_3 : St w_3 s g sh [dz, (1, true, [])] := K_3
    have FW4 := FW2.step F_3 HUP.out
    clear FW2 F_3
    have HXO : Hid (x < 0 ∨ (sh.length : Int) ≤ x) := Lib.hid (by have := HX.out; have := HSL.out; omega)
    go_wp2_with fail
    refine (change_out K_3 HXO.out now span HN.out HSP.out).mono ?_
    rintro e w_5 ⟨rfl, F_5⟩
    have K_5 := K_3.calm F_5
    clear K_3
    have FW6 := FW4.step F_5 nop
    clear FW4 F_5
    go_wp2_with fail
    refine (change_nil _ x now span HN.out HSP.out).mono ?_
    rintro e w_7 ⟨rfl, F_7⟩
    have K_7 := K_5.calm F_7
    clear K_5
    have FW8 := FW6.step F_7 nop
    clear FW6 F_7
    go_wp2_with fail
    refine (changes_any _).mono ?_
    rintro e w_9 ⟨rfl, F_9⟩
    have K_9 := K_7.calm F_9
    clear K_7
    have FW10 := FW8.step F_9 nop
    clear FW8 F_9
    have HF := Lib.hid FW10
    clear FW10 K_9
    go_wp2
    go_ret
    exact ⟨rfl, HF.out.below⟩
set_option maxRecDepth 100000 in
set_option maxHeartbeats 3200000 in
theorem TrendCross_walk (k l b d : Int) (W : World) (w0 : (Lit.int .u8 k).wf = true) (w1 : (Lit.int .i64 l).wf = true) (w2 : (Lit.int .i64 b).wf = true) (w3 : (Lit.int .i64 d).wf = true) :
    Calls Try.prog 6 #[.int .u8 k, .int .i64 l, .int .i64 b, .int .i64 d] W fun e w' => e = .returned (.bool true) ∧ Below W.heap.size W w' := by
  have hx := Int.lt_tmod_of_pos d (show (0 : Int) < 8589934592 by omega)
  have hx2 := Int.tmod_lt_of_pos d (show (0 : Int) < 8589934592 by omega)
  clear w0 w1 w2 w3
  obtain ⟨x, hxe⟩ : ∃ x, Int.tmod d 8589934592 = x := ⟨_, rfl⟩
  rw [hxe] at hx hx2
  have hb : -1099511627776 ≤ x ∧ x ≤ 1099511627776 := by omega
  have HB := Lib.hid hb
  have Bz3 : (W.alloc (.cells #[.int .u8 0, .int .i64 0, .int .i64 0, .int .i64 0, .int .i64 0, .int .i64 0, .int .u8 0, .bool false, .slice none 0 0] 43)).heap[W.heap.size]? = some (.cells #[.int .u8 0, .int .i64 0, .int .i64 0, .int .i64 0, .int .i64 0, .int .i64 0, .int .u8 0, .bool false, .slice none 0 0] 43 (0, 0)) := alloc_is _ rfl
  have Fz3 := (Fr.refl (fun _ => False) W).alloc (.cells #[.int .u8 0, .int .i64 0, .int .i64 0, .int .i64 0, .int .i64 0, .int .i64 0, .int .u8 0, .bool false, .slice none 0 0] 43)
  generalize hwm3 : W.alloc (.cells #[.int .u8 0, .int .i64 0, .int .i64 0, .int .i64 0, .int .i64 0, .int .i64 0, .int .u8 0, .bool false, .slice none 0 0] 43) = wm3 at Bz3 Fz3
  obtain ⟨c3_0, c3_1, c3_2, c3_3, c3_4, c3_5, c3_6, c3_7, c3_8⟩ := cells9 Bz3
  have z3_0 := frozen_of Bz3 0
  have z3_1 := frozen_of Bz3 1
  have z3_2 := frozen_of Bz3 2
  have z3_3 := frozen_of Bz3 3
  have z3_4 := frozen_of Bz3 4
  have z3_5 := frozen_of Bz3 5
  have z3_6 := frozen_of Bz3 6
  have z3_7 := frozen_of Bz3 7
  have z3_8 := frozen_of Bz3 8
  have B3 := put9 (y0 := .int .u8 k) (y1 := .int .i64 0) (y2 := .int .i64 l) (y3 := .int .i64 b) (y4 := .int .i64 0) (y5 := .int .i64 0) (y6 := .int .u8 0) (y7 := .bool false) (y8 := .slice none 0 0) Bz3
  have Fo3 := (Fr.refl (fun i => i = W.heap.size) wm3).put9 (b := W.heap.size) (fun _ => rfl) (.int .u8 k) (.int .i64 0) (.int .i64 l) (.int .i64 b) (.int .i64 0) (.int .i64 0) (.int .u8 0) (.bool false) (.slice none 0 0)
  generalize hwo3 : (((((((((wm3.setCell ⟨W.heap.size, 0, none⟩ (.int .u8 k)).setCell ⟨W.heap.size, 1, none⟩ (.int .i64 0)).setCell ⟨W.heap.size, 2, none⟩ (.int .i64 l)).setCell ⟨W.heap.size, 3, none⟩ (.int .i64 b)).setCell ⟨W.heap.size, 4, none⟩ (.int .i64 0)).setCell ⟨W.heap.size, 5, none⟩ (.int .i64 0)).setCell ⟨W.heap.size, 6, none⟩ (.int .u8 0)).setCell ⟨W.heap.size, 7, none⟩ (.bool false)).setCell ⟨W.heap.size, 8, none⟩ (.slice none 0 0)) = wo3 at B3 Fo3
  have FF3 := Fz3.trans Fo3 (fun i hi (h : i = W.heap.size) => by omega)
  obtain ⟨d3_0, d3_1, d3_2, d3_3, d3_4, d3_5, d3_6, d3_7, d3_8⟩ := cells9 B3
  go_enter Try.func6, Try.ntmps6
  go_wp2_with fail
  refine (cross_any _ k 0 l b 0 0 0 false none 0 0 x HB.out).mono ?_
  rintro e w5 ⟨rfl, F5⟩
  have HC := Lib.hid (fun w' => rcross_any w' k 0 l b 0 0 0 false none 0 0 x HB.out)
  generalize crs k l b x = r at HC ⊢
  obtain ⟨r0, r1⟩ := r
  have B5 := F5.at_ B3 (fun x => x)
  have F35 := FF3.step F5 nop
  clear c3_0 z3_0 c3_1 z3_1 c3_2 z3_2 c3_3 z3_3 c3_4 z3_4 c3_5 z3_5 c3_6 z3_6 c3_7 z3_7 c3_8 z3_8 d3_0 d3_1 d3_2 d3_3 d3_4 d3_5 d3_6 d3_7 d3_8 Bz3 Fz3 Fo3 hwm3 hwo3
  clear FF3 B3 F5
  obtain ⟨c0, c1, c2, c3, c4, c5, c6, c7, c8⟩ := cells9 B5
  go_wp2_with fail
  refine (HC.out _).mono ?_
  rintro e w6 ⟨rfl, F6⟩
  have F36 := F35.step F6 nop
  clear c0 c1 c2 c3 c4 c5 c6 c7 c8 B5 F35 F6
  go_wp2_with fail
  refine (changes_any _).mono ?_
  rintro e w_1 ⟨rfl, F_1⟩
  have FW2 := F36.step F_1 nop
  clear F36 F_1
  have HF := Lib.hid FW2
  clear FW2
  go_wp2
  go_ret
  exact ⟨rfl, HF.out.below⟩
set_option maxRecDepth 100000 in
set_option maxHeartbeats 3200000 in
theorem TrendTurned_walk (l b d : Int) (W : World) (w0 : (Lit.int .u16 l).wf = true) (w1 : (Lit.int .u16 b).wf = true) (w2 : (Lit.int .i32 d).wf = true) :
    Calls Try.prog 7 #[.int .u16 l, .int .u16 b, .int .i32 d] W fun e w' => e = .returned (.bool true) ∧ Below W.heap.size W w' := by
  have h0 := bounds_u16 w0
  have h1 := bounds_u16 w1
  have h2 := bounds_i32 w2
  clear w0 w1 w2
  obtain ⟨q, hq⟩ : ∃ q, b % (2 + l) = q := ⟨_, rfl⟩
  have hq0 := Int.emod_nonneg b (show 2 + l ≠ 0 by omega)
  have hq1 := Int.emod_lt_of_pos b (show 0 < 2 + l by omega)
  rw [hq] at hq0 hq1
  have e1 : ((2 + l) == 0) = false := by simp; omega
  have e2 : Int.tmod b (2 + l) = q := by rw [Int.tmod_eq_emod_of_nonneg h1.1]; exact hq
  have hb : -1099511627776 ≤ d ∧ d ≤ 1099511627776 := by omega
  have hb2 : -1099511627776 ≤ -d ∧ -d ≤ 1099511627776 := by omega
  have HB := Lib.hid hb
  have HB2 := Lib.hid hb2
  have hcr : crs 4 (1 + l) q (-d) = crs 3 (1 + l) q d := by unfold crs; rw [if_neg (by omega), if_pos rfl, if_pos rfl, Int.neg_neg]
  have HCR := Lib.hid hcr
  have hna : ¬ ((crs 3 (1 + l) q d).1 = true ∧ (crs 3 (1 + l) q d).2 = true) := by unfold crs; rw [if_pos rfl]; simp; omega
  have HNA := Lib.hid hna
  clear hcr hna hb hb2
  have Bz3 : (W.alloc (.cells #[.int .u8 0, .int .i64 0, .int .i64 0, .int .i64 0, .int .i64 0, .int .i64 0, .int .u8 0, .bool false, .slice none 0 0] 43)).heap[W.heap.size]? = some (.cells #[.int .u8 0, .int .i64 0, .int .i64 0, .int .i64 0, .int .i64 0, .int .i64 0, .int .u8 0, .bool false, .slice none 0 0] 43 (0, 0)) := alloc_is _ rfl
  have Fz3 := (Fr.refl (fun _ => False) W).alloc (.cells #[.int .u8 0, .int .i64 0, .int .i64 0, .int .i64 0, .int .i64 0, .int .i64 0, .int .u8 0, .bool false, .slice none 0 0] 43)
  generalize hwm3 : W.alloc (.cells #[.int .u8 0, .int .i64 0, .int .i64 0, .int .i64 0, .int .i64 0, .int .i64 0, .int .u8 0, .bool false, .slice none 0 0] 43) = wm3 at Bz3 Fz3
  obtain ⟨c3_0, c3_1, c3_2, c3_3, c3_4, c3_5, c3_6, c3_7, c3_8⟩ := cells9 Bz3
  have z3_0 := frozen_of Bz3 0
  have z3_1 := frozen_of Bz3 1
  have z3_2 := frozen_of Bz3 2
  have z3_3 := frozen_of Bz3 3
  have z3_4 := frozen_of Bz3 4
  have z3_5 := frozen_of Bz3 5
  have z3_6 := frozen_of Bz3 6
  have z3_7 := frozen_of Bz3 7
  have z3_8 := frozen_of Bz3 8
  have B3 := put9 (y0 := .int .u8 3) (y1 := .int .i64 0) (y2 := .int .i64 (1 + l)) (y3 := .int .i64 q) (y4 := .int .i64 0) (y5 := .int .i64 0) (y6 := .int .u8 0) (y7 := .bool false) (y8 := .slice none 0 0) Bz3
  have Fo3 := (Fr.refl (fun i => i = W.heap.size) wm3).put9 (b := W.heap.size) (fun _ => rfl) (.int .u8 3) (.int .i64 0) (.int .i64 (1 + l)) (.int .i64 q) (.int .i64 0) (.int .i64 0) (.int .u8 0) (.bool false) (.slice none 0 0)
  generalize hwo3 : (((((((((wm3.setCell ⟨W.heap.size, 0, none⟩ (.int .u8 3)).setCell ⟨W.heap.size, 1, none⟩ (.int .i64 0)).setCell ⟨W.heap.size, 2, none⟩ (.int .i64 (1 + l))).setCell ⟨W.heap.size, 3, none⟩ (.int .i64 q)).setCell ⟨W.heap.size, 4, none⟩ (.int .i64 0)).setCell ⟨W.heap.size, 5, none⟩ (.int .i64 0)).setCell ⟨W.heap.size, 6, none⟩ (.int .u8 0)).setCell ⟨W.heap.size, 7, none⟩ (.bool false)).setCell ⟨W.heap.size, 8, none⟩ (.slice none 0 0)) = wo3 at B3 Fo3
  have FF3 := Fz3.trans Fo3 (fun i hi (h : i = W.heap.size) => by omega)
  obtain ⟨d3_0, d3_1, d3_2, d3_3, d3_4, d3_5, d3_6, d3_7, d3_8⟩ := cells9 B3
  have Bz4 : (wo3.alloc (.cells #[.int .u8 0, .int .i64 0, .int .i64 0, .int .i64 0, .int .i64 0, .int .i64 0, .int .u8 0, .bool false, .slice none 0 0] 43)).heap[wo3.heap.size]? = some (.cells #[.int .u8 0, .int .i64 0, .int .i64 0, .int .i64 0, .int .i64 0, .int .i64 0, .int .u8 0, .bool false, .slice none 0 0] 43 (0, 0)) := alloc_is _ rfl
  have Fz4 := (Fr.refl (fun _ => False) wo3).alloc (.cells #[.int .u8 0, .int .i64 0, .int .i64 0, .int .i64 0, .int .i64 0, .int .i64 0, .int .u8 0, .bool false, .slice none 0 0] 43)
  generalize hwm4 : wo3.alloc (.cells #[.int .u8 0, .int .i64 0, .int .i64 0, .int .i64 0, .int .i64 0, .int .i64 0, .int .u8 0, .bool false, .slice none 0 0] 43) = wm4 at Bz4 Fz4
  obtain ⟨c4_0, c4_1, c4_2, c4_3, c4_4, c4_5, c4_6, c4_7, c4_8⟩ := cells9 Bz4
  have z4_0 := frozen_of Bz4 0
  have z4_1 := frozen_of Bz4 1
  have z4_2 := frozen_of Bz4 2
  have z4_3 := frozen_of Bz4 3
  have z4_4 := frozen_of Bz4 4
  have z4_5 := frozen_of Bz4 5
  have z4_6 := frozen_of Bz4 6
  have z4_7 := frozen_of Bz4 7
  have z4_8 := frozen_of Bz4 8
  have B4 := put9 (y0 := .int .u8 3) (y1 := .int .i64 0) (y2 := .int .i64 (1 + l)) (y3 := .int .i64 q) (y4 := .int .i64 0) (y5 := .int .i64 0) (y6 := .int .u8 0) (y7 := .bool false) (y8 := .slice none 0 0) Bz4
  have Fo4 := (Fr.refl (fun i => i = wo3.heap.size) wm4).put9 (b := wo3.heap.size) (fun _ => rfl) (.int .u8 3) (.int .i64 0) (.int .i64 (1 + l)) (.int .i64 q) (.int .i64 0) (.int .i64 0) (.int .u8 0) (.bool false) (.slice none 0 0)
  generalize hwo4 : (((((((((wm4.setCell ⟨wo3.heap.size, 0, none⟩ (.int .u8 3)).setCell ⟨wo3.heap.size, 1, none⟩ (.int .i64 0)).setCell ⟨wo3.heap.size, 2, none⟩ (.int .i64 (1 + l))).setCell ⟨wo3.heap.size, 3, none⟩ (.int .i64 q)).setCell ⟨wo3.heap.size, 4, none⟩ (.int .i64 0)).setCell ⟨wo3.heap.size, 5, none⟩ (.int .i64 0)).setCell ⟨wo3.heap.size, 6, none⟩ (.int .u8 0)).setCell ⟨wo3.heap.size, 7, none⟩ (.bool false)).setCell ⟨wo3.heap.size, 8, none⟩ (.slice none 0 0)) = wo4 at B4 Fo4
  have FF4 := Fz4.trans Fo4 (fun i hi (h : i = wo3.heap.size) => by omega)
  obtain ⟨d4_0, d4_1, d4_2, d4_3, d4_4, d4_5, d4_6, d4_7, d4_8⟩ := cells9 B4
  have B34 := FF4.at_ B3 (fun x => x)
  have F4 := FF3.step FF4 nop
  have zk := frozen_of B4 0
  have B5 := set_at B4 0 (.int .u8 4)
  simp only [List.setIfInBounds_toArray, List.set_cons_zero] at B5
  have hne : W.heap.size ≠ wo3.heap.size := by have := lt_of B3; omega
  have B35 := set_far B34 (p := ⟨wo3.heap.size, 0, none⟩) hne (.int .u8 4)
  have hge : W.heap.size ≤ wo3.heap.size := FF3.size
  have F5 := F4.setCell (p := ⟨wo3.heap.size, 0, none⟩) (fun (h : wo3.heap.size < W.heap.size) => absurd h (by omega)) (.int .u8 4)
  generalize hwz : wo4.setCell ⟨wo3.heap.size, 0, none⟩ (.int .u8 4) = wz at B5 B35 F5
  obtain ⟨p0, p1, p2, p3, p4, p5, p6, p7, p8⟩ := cells9 B35
  have HB5 := Lib.hid B5
  go_enter Try.func7, Try.ntmps7
  go_wp2_with fail
  refine (cross_any wz 3 0 (1 + l) q 0 0 0 false none 0 0 d HB.out).mono ?_
  rintro e w5 ⟨rfl, F6⟩
  have HC := Lib.hid (fun w' => cross_any w' 4 0 (1 + l) q 0 0 0 false none 0 0 (-d) HB2.out)
  rw [HCR.out] at HC
  generalize crs 3 (1 + l) q d = r at HC HNA ⊢
  obtain ⟨r0, r1⟩ := r
  have B6 := F6.at_ HB5.out (fun x => x)
  have F56 := F5.step F6 nop
  clear c3_0 z3_0 c3_1 z3_1 c3_2 z3_2 c3_3 z3_3 c3_4 z3_4 c3_5 z3_5 c3_6 z3_6 c3_7 z3_7 c3_8 z3_8 d3_0 d3_1 d3_2 d3_3 d3_4 d3_5 d3_6 d3_7 d3_8 Bz3 Fz3 Fo3 hwm3 hwo3
  clear c4_0 z4_0 c4_1 z4_1 c4_2 z4_2 c4_3 z4_3 c4_4 z4_4 c4_5 z4_5 c4_6 z4_6 c4_7 z4_7 c4_8 z4_8 d4_0 d4_1 d4_2 d4_3 d4_4 d4_5 d4_6 d4_7 d4_8 Bz4 Fz4 Fo4 hwm4 hwo4
  clear FF3 FF4 F4 B34 p0 p1 p2 p3 p4 p5 p6 p7 p8 zk hwz B35 F5 F6 B3 B4 B5
  obtain ⟨c0, c1, c2, c3, c4, c5, c6, c7, c8⟩ := cells9 B6
  go_wp2_with fail
  refine (HC.out _).mono ?_
  rintro e w6 ⟨rfl, F7⟩
  have F57 := F56.step F7 nop
  clear c0 c1 c2 c3 c4 c5 c6 c7 c8 B6 F56 F7 HC
  go_wp2_with fail
  refine (changes_any _).mono ?_
  rintro e w_1 ⟨rfl, F_1⟩
  have FW2 := F57.step F_1 nop
  clear F57 F_1
  cases r0 <;> cases r1
  case true.true => exact absurd ⟨rfl, rfl⟩ HNA.out
  all_goals (have HF := Lib.hid FW2; go_wp2; go_ret; exact ⟨rfl, HF.out.below⟩)

end Go.Proofs.Ytgknbhjhkdohkaa
