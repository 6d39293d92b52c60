/- CLa. -/
import Derived.Test.YtiahnklhgooigaaChecked
import Derived.WalkKit
import Derived.Laws.IdiomCopy
import Derived.Deep.QuietTactic
import Derived.BigQuiet
import Derived.Lib.Hide
import Derived.OpenShut
import Derived.StillTailTactics
import Derived.Deep.RegionWith
import Derived.Deep.RegionLaw
import Derived.Deep.Slices
import Derived.Deep.RegionHeld3
import Derived.OwnWalk
import Derived.Test.YtiahnklhgooigaaBase
import Derived.Test.YtiahnklhgooigaaCalm
import Derived.Test.YtiahnklhgooigaaCalmT
import Derived.Test.YtiahnklhgooigaaCel
import Derived.Test.YtiahnklhgooigaaApp
import Derived.Test.YtiahnklhgooigaaClk
import Derived.Test.YtiahnklhgooigaaRV
import Derived.Test.YtiahnklhgooigaaRVB
import Derived.Test.YtiahnklhgooigaaRVC
import Derived.Test.YtiahnklhgooigaaRVA
import Derived.Test.YtiahnklhgooigaaCeS
import Derived.Test.YtiahnklhgooigaaCeF
import Derived.Test.YtiahnklhgooigaaCeG
import Derived.Test.YtiahnklhgooigaaCeN
import Derived.Test.YtiahnklhgooigaaCeX
import Derived.Test.YtiahnklhgooigaaClkR
namespace Go.Proofs.Ytiahnklhgooigaa
open Go.RowKit
set_option linter.unusedVariables false
set_option linter.unusedSimpArgs false

/-! ### handbelllaw10.keeps -/
set_option maxRecDepth 100000 in
set_option maxHeartbeats 3200000 in
theorem keeps_any (w : World) : Calls Try.prog 9 #[] w fun e w' => e = .returned (.bool true) ∧ Fr (fun _ => False) w w' := by
  go_enter Try.func9, Try.ntmps9
  go_wp2_with fail
  refine (store_new _ 1).mono ?_
  rintro e w_1 ⟨s, g, sh, rfl, hsl, K_1, F_1, hup0⟩
  rw [show nsig 1 = 1 from by decide] at hsl K_1
  have hup := hup0
  have HUP := Lib.hid hup
  clear hup hup0
  have HSL := Lib.hid hsl
  clear hsl
  have FW2 := F_1
  go_wp2_with fail
  refine (put_x K_1 (x := 0) (i := 0) (by rfl) (by have := HSL.out; omega) 3 0 7 false).mono ?_
  rintro e w_3 ⟨rfl, K_3, F_3⟩
  clear K_1
  replace K_3 : St w_3 s g sh [(3, false, [(7, 3)])] := K_3
  have FW4 := FW2.step F_3 HUP.out
  clear FW2 F_3
  go_wp2_with fail
  refine (put_x K_3 (x := 0) (i := 0) (by rfl) (by have := HSL.out; omega) 5 0 9 false).mono ?_
  rintro e w_5 ⟨rfl, K_5, F_5⟩
  clear K_3
  replace K_5 : St w_5 s g sh [(5, false, [(7, 3), (9, 5)])] := K_5
  have FW6 := FW4.step F_5 HUP.out
  clear FW4 F_5
  go_wp2_with fail
  refine (value_x K_5 (x := 0) (i := 0) rfl (by have := HSL.out; omega) (r := (9, 5, true)) rfl).mono ?_
  rintro e w_7 ⟨rfl, F_7⟩
  have K_7 := K_5.calm F_7
  clear K_5
  have FW8 := FW6.step F_7 nop
  clear FW6 F_7
  go_wp2_with fail
  refine (oldest_x K_7 (x := 0) (i := 0) rfl (by have := HSL.out; omega) 4 (r := (9, true)) (by decide)).mono ?_
  rintro e w_9 ⟨rfl, F_9⟩
  have K_9 := K_7.calm F_9
  clear K_7
  have FW10 := FW8.step F_9 nop
  clear FW8 F_9
  go_wp2_with fail
  refine (quiet_x K_9 (x := 0) (i := 0) rfl (by have := HSL.out; omega) 8 (by unfold BigI; omega) (by show BigI 5; unfold BigI; omega) (r := 3) (by decide)).mono ?_
  rintro e w_11 ⟨rfl, F_11⟩
  have K_11 := K_9.calm F_11
  clear K_9
  have FW12 := FW10.step F_11 nop
  clear FW10 F_11
  go_wp2_with fail
  refine (bad_x K_11 (x := 0) (i := 0) rfl (by have := HSL.out; omega) (r := false) rfl).mono ?_
  rintro e w_13 ⟨rfl, F_13⟩
  have K_13 := K_11.calm F_13
  clear K_11
  have FW14 := FW12.step F_13 nop
  clear FW12 F_13
  have HF := Lib.hid FW14
  clear FW14 K_13
  go_wp2
  go_ret
  exact ⟨rfl, HF.out⟩
set_option maxRecDepth 100000 in
set_option maxHeartbeats 3200000 in
theorem CellBad_walk (v a b : Int) (W : World) (w0 : (Lit.int .i64 v).wf = true) (w1 : (Lit.int .u8 a).wf = true) (w2 : (Lit.int .u8 b).wf = true) :
    Calls Try.prog 6 #[.int .i64 v, .int .u8 a, .int .u8 b] W fun e w' => e = .returned (.bool true) ∧ Below W.heap.size W w' := by
  have ha := bounds_u8 w1
  have hb := bounds_u8 w2
  clear w0 w1 w2
  go_enter Try.func6, Try.ntmps6
  go_wp2_with fail
  refine (keeps_any _).mono ?_
  rintro e w_1 ⟨rfl, F_1⟩
  have FW2 := F_1
  go_wp2_with fail
  refine (store_new _ 1).mono ?_
  rintro e w_3 ⟨s, g, sh, rfl, hsl, K_3, F_3, hup0⟩
  rw [show nsig 1 = 1 from by decide] at hsl K_3
  have hup : ∀ i, inSt s g sh i → W.heap.size ≤ i := fun i hi => Nat.le_trans FW2.size (hup0 i hi)
  have HUP := Lib.hid hup
  clear hup hup0
  have HSL := Lib.hid hsl
  clear hsl
  have FW4 := FW2.step F_3 nop
  clear FW2 F_3
  go_wp2_with fail
  refine (put_x K_3 (x := 0) (i := 0) (by rfl) (by have := HSL.out; omega) a 0 v false).mono ?_
  rintro e w_5 ⟨rfl, K_5, F_5⟩
  clear K_3
  replace K_5 : St w_5 s g sh [(a, false, [(v, a)])] := K_5
  have FW6 := FW4.step F_5 HUP.out
  clear FW4 F_5
  go_wp2_with fail
  refine (put_x K_5 (x := 0) (i := 0) (by rfl) (by have := HSL.out; omega) (a + b) 0 5 true).mono ?_
  rintro e w_7 ⟨rfl, K_7, F_7⟩
  clear K_5
  replace K_7 : St w_7 s g sh [(a + b, true, [(v, a)])] := K_7
  have FW8 := FW6.step F_7 HUP.out
  clear FW6 F_7
  go_wp2_with fail
  refine (value_x K_7 (x := 0) (i := 0) rfl (by have := HSL.out; omega) (r := (v, a, true)) rfl).mono ?_
  rintro e w_9 ⟨rfl, F_9⟩
  have K_9 := K_7.calm F_9
  clear K_7
  have FW10 := FW8.step F_9 nop
  clear FW8 F_9
  go_wp2_with fail
  refine (bad_x K_9 (x := 0) (i := 0) rfl (by have := HSL.out; omega) (r := true) rfl).mono ?_
  rintro e w_11 ⟨rfl, F_11⟩
  have K_11 := K_9.calm F_11
  clear K_9
  have FW12 := FW10.step F_11 nop
  clear FW10 F_11
  go_wp2_with fail
  refine (quiet_x K_11 (x := 0) (i := 0) rfl (by have := HSL.out; omega) (a + b + 9) (by unfold BigI; omega) (by show BigI (a + b); unfold BigI; omega) (r := 9) (by show sn (a + b + 9) (a + b) = 9; unfold sn; rw [if_neg (by omega), if_neg (by omega)]; omega)).mono ?_
  rintro e w_13 ⟨rfl, F_13⟩
  have K_13 := K_11.calm F_13
  clear K_11
  have FW14 := FW12.step F_13 nop
  clear FW12 F_13
  go_wp2_with fail
  refine (put_x K_13 (x := 0) (i := 0) (by rfl) (by have := HSL.out; omega) (a + b) 0 6 false).mono ?_
  rintro e w_15 ⟨rfl, K_15, F_15⟩
  clear K_13
  replace K_15 : St w_15 s g sh [(a + b, false, [(v, a), (6, a + b)])] := K_15
  have FW16 := FW14.step F_15 HUP.out
  clear FW14 F_15
  go_wp2_with fail
  refine (value_x K_15 (x := 0) (i := 0) rfl (by have := HSL.out; omega) (r := (6, a + b, true)) rfl).mono ?_
  rintro e w_17 ⟨rfl, F_17⟩
  have K_17 := K_15.calm F_17
  clear K_15
  have FW18 := FW16.step F_17 nop
  clear FW16 F_17
  go_wp2_with fail
  refine (bad_x K_17 (x := 0) (i := 0) rfl (by have := HSL.out; omega) (r := false) rfl).mono ?_
  rintro e w_19 ⟨rfl, F_19⟩
  have K_19 := K_17.calm F_19
  clear K_17
  have FW20 := FW18.step F_19 nop
  clear FW18 F_19
  go_wp2_with fail
  refine (kept_x K_19 (x := 0) (i := 0) rfl (by have := HSL.out; omega) (r := 2) rfl).mono ?_
  rintro e w_21 ⟨rfl, F_21⟩
  have K_21 := K_19.calm F_21
  clear K_19
  have FW22 := FW20.step F_21 nop
  clear FW20 F_21
  have HF := Lib.hid FW22
  clear FW22 K_21
  go_wp2
  go_ret
  exact ⟨rfl, HF.out.below⟩
set_option maxRecDepth 100000 in
set_option maxHeartbeats 3200000 in
theorem CellNil_walk (x q v : Int) (bad : Bool) (now : Int) (W : World) (w0 : (Lit.int .i64 x).wf = true) (w1 : (Lit.int .u8 q).wf = true) (w2 : (Lit.int .i64 v).wf = true) (w3 : (Lit.int .i64 now).wf = true) :
    Calls Try.prog 8 #[.agg #[.int .i64 x, .int .u8 q, .int .i64 v, .bool bad], .int .i64 now] W fun e w' => e = .returned (.bool true) ∧ Below W.heap.size W w' := by
  have hn : BigI now := bounds_i64 w3
  have HN := Lib.hid hn
  clear w0 w1 w2 w3 hn
  have B := alloc_is (w := W) (n := W.heap.size) (.cells #[.int .i64 x, .int .u8 q, .int .i64 v, .bool bad] 27) rfl
  have FW0 := (Fr.refl (fun _ => False) W).alloc (.cells #[.int .i64 x, .int .u8 q, .int .i64 v, .bool bad] 27)
  generalize hw0 : W.alloc (.cells #[.int .i64 x, .int .u8 q, .int .i64 v, .bool bad] 27) = v0 at B FW0
  obtain ⟨c0, c1, c2, c3⟩ := cells4 B
  go_enter Try.func8, Try.ntmps8
  go_wp2_with fail
  refine (value_nil _ x).mono ?_
  rintro e w_1 ⟨rfl, F_1⟩
  have B1 := F_1.at_ B (fun x => x)
  clear c0 c1 c2 c3
  obtain ⟨c0, c1, c2, c3⟩ := cells4 B1
  have FW2 := FW0.step F_1 nop
  clear FW0 F_1
  go_wp2_with fail
  refine (oldest_nil _ x now).mono ?_
  rintro e w_3 ⟨rfl, F_3⟩
  have B2 := F_3.at_ B1 (fun x => x)
  clear c0 c1 c2 c3
  obtain ⟨c0, c1, c2, c3⟩ := cells4 B2
  have FW4 := FW2.step F_3 nop
  clear FW2 F_3
  go_wp2_with fail
  refine (keeps_any _).mono ?_
  rintro e w_5 ⟨rfl, F_5⟩
  have B3 := F_5.at_ B2 (fun x => x)
  clear c0 c1 c2 c3
  obtain ⟨c0, c1, c2, c3⟩ := cells4 B3
  have FW6 := FW4.step F_5 nop
  clear FW4 F_5
  go_wp2_with fail
  refine (put_nil _ x now q v bad).mono ?_
  rintro e w_7 ⟨rfl, F_7⟩
  have B4 := F_7.at_ B3 (fun x => x)
  clear c0 c1 c2 c3
  obtain ⟨c0, c1, c2, c3⟩ := cells4 B4
  have FW8 := FW6.step F_7 nop
  clear FW6 F_7
  go_wp2_with fail
  refine (bad_nil _ x).mono ?_
  rintro e w_9 ⟨rfl, F_9⟩
  have B5 := F_9.at_ B4 (fun x => x)
  clear c0 c1 c2 c3
  obtain ⟨c0, c1, c2, c3⟩ := cells4 B5
  have FW10 := FW8.step F_9 nop
  clear FW8 F_9
  go_wp2_with fail
  refine (kept_nil _ x).mono ?_
  rintro e w_11 ⟨rfl, F_11⟩
  have B6 := F_11.at_ B5 (fun x => x)
  clear c0 c1 c2 c3
  obtain ⟨c0, c1, c2, c3⟩ := cells4 B6
  have FW12 := FW10.step F_11 nop
  clear FW10 F_11
  go_wp2_with fail
  refine (quiet_nil _ x now HN.out).mono ?_
  rintro e w_13 ⟨rfl, F_13⟩
  have B7 := F_13.at_ B6 (fun x => x)
  clear c0 c1 c2 c3
  obtain ⟨c0, c1, c2, c3⟩ := cells4 B7
  have FW14 := FW12.step F_13 nop
  clear FW12 F_13
  go_wp2_with fail
  refine (rsince_fr _ now 0 HN.out (by unfold BigI; omega)).mono ?_
  rintro e w_15 ⟨rfl, F_15⟩
  have B8 := F_15.at_ B7 (fun x => x)
  clear c0 c1 c2 c3
  obtain ⟨c0, c1, c2, c3⟩ := cells4 B8
  have FW16 := FW14.step F_15 nop
  clear FW14 F_15
  have HF := Lib.hid FW16
  clear FW16
  go_wp2
  go_ret
  exact ⟨rfl, HF.out.below⟩
set_option maxRecDepth 100000 in
set_option maxHeartbeats 3200000 in
theorem CellQuiet_walk (x now : Int) (W : World) (w0 : (Lit.int .i64 x).wf = true) (w1 : (Lit.int .i64 now).wf = true) :
    Calls Try.prog 7 #[.int .i64 x, .int .i64 now] W fun e w' => e = .returned (.bool true) ∧ Below W.heap.size W w' := by
  have hn : BigI now := bounds_i64 w1
  have HN := Lib.hid hn
  clear w0 w1 hn
  by_cases hx : 0 ≤ x ∧ x < 3
  · obtain ⟨i, hi⟩ : ∃ i : Nat, x = (i : Int) := ⟨x.toNat, by omega⟩
    have hi3 : i < 3 := by omega
    have HX := Lib.hid hi
    have hdz : (List.replicate 3 dz).getD i dz = dz := by rw [List.getD_eq_getElem?_getD, List.getElem?_replicate]; split <;> rfl
    have HDZ := Lib.hid hdz
    clear hx hi hdz
    go_enter Try.func7, Try.ntmps7
    go_wp2_with fail
    refine (store_new _ 3).mono ?_
    rintro e w_1 ⟨s, g, sh, rfl, hsl, K_1, F_1, hup0⟩
    rw [show nsig 3 = 3 from by decide] at hsl K_1
    have hup := hup0
    have HUP := Lib.hid hup
    clear hup hup0
    have HSL := Lib.hid hsl
    clear hsl
    have FW2 := F_1
    go_wp2_with fail
    refine (value_x K_1 HX.out (by have := HSL.out; omega) (r := (0, 0, false)) (by rw [HDZ.out]; rfl)).mono ?_
    rintro e w_3 ⟨rfl, F_3⟩
    have K_3 := K_1.calm F_3
    clear K_1
    have FW4 := FW2.step F_3 nop
    clear FW2 F_3
    go_wp2_with fail
    refine (oldest_x K_3 HX.out (by have := HSL.out; omega) now (r := (0, false)) (by rw [HDZ.out]; rfl)).mono ?_
    rintro e w_5 ⟨rfl, F_5⟩
    have K_5 := K_3.calm F_5
    clear K_3
    have FW6 := FW4.step F_5 nop
    clear FW4 F_5
    go_wp2_with fail
    refine (keeps_any _).mono ?_
    rintro e w_7 ⟨rfl, F_7⟩
    have K_7 := K_5.calm F_7
    clear K_5
    have FW8 := FW6.step F_7 nop
    clear FW6 F_7
    go_wp2_with fail
    refine (quiet_x K_7 HX.out (by have := HSL.out; omega) now HN.out (by rw [HDZ.out]; show BigI 0; unfold BigI; omega) (r := sn now 0) (by rw [HDZ.out]; rfl)).mono ?_
    rintro e w_9 ⟨rfl, F_9⟩
    have K_9 := K_7.calm F_9
    clear K_7
    have FW10 := FW8.step F_9 nop
    clear FW8 F_9
    go_wp2_with fail
    refine (rsince_fr _ now 0 HN.out (by unfold BigI; omega)).mono ?_
    rintro e w_11 ⟨rfl, F_11⟩
    have K_11 := K_9.calm F_11
    clear K_9
    have FW12 := FW10.step F_11 nop
    clear FW10 F_11
    go_wp2_with fail
    refine (bad_x K_11 HX.out (by have := HSL.out; omega) (r := false) (by rw [HDZ.out]; rfl)).mono ?_
    rintro e w_13 ⟨rfl, F_13⟩
    have K_13 := K_11.calm F_13
    clear K_11
    have FW14 := FW12.step F_13 nop
    clear FW12 F_13
    go_wp2_with fail
    refine (kept_x K_13 HX.out (by have := HSL.out; omega) (r := 0) (by rw [HDZ.out]; rfl)).mono ?_
    rintro e w_15 ⟨rfl, F_15⟩
    have K_15 := K_13.calm F_15
    clear K_13
    have FW16 := FW14.step F_15 nop
    clear FW14 F_15
    have HF := Lib.hid FW16
    clear FW16 K_15
    go_wp2
    go_ret
    exact ⟨rfl, HF.out.below⟩
  · have hx2 : x < 0 ∨ 3 ≤ x := by omega
    have HX := Lib.hid hx2
    clear hx hx2
    go_enter Try.func7, Try.ntmps7
    go_wp2_with fail
    refine (store_new _ 3).mono ?_
    rintro e w_1 ⟨s, g, sh, rfl, hsl, K_1, F_1, hup0⟩
    rw [show nsig 3 = 3 from by decide] at hsl K_1
    have hup := hup0
    have HUP := Lib.hid hup
    clear hup hup0
    have HSL := Lib.hid hsl
    clear hsl
    have FW2 := F_1
    have hxo : x < 0 ∨ (sh.length : Int) ≤ x := by have := HX.out; have := HSL.out; omega
    have HXO := Lib.hid hxo
    clear hxo
    go_wp2_with fail
    refine (value_out K_1 HXO.out).mono ?_
    rintro e w_3 ⟨rfl, F_3⟩
    have K_3 := K_1.calm F_3
    clear K_1
    have FW4 := FW2.step F_3 nop
    clear FW2 F_3
    go_wp2_with fail
    refine (oldest_out K_3 HXO.out now).mono ?_
    rintro e w_5 ⟨rfl, F_5⟩
    have K_5 := K_3.calm F_5
    clear K_3
    have FW6 := FW4.step F_5 nop
    clear FW4 F_5
    go_wp2_with fail
    refine (keeps_any _).mono ?_
    rintro e w_7 ⟨rfl, F_7⟩
    have K_7 := K_5.calm F_7
    clear K_5
    have FW8 := FW6.step F_7 nop
    clear FW6 F_7
    go_wp2_with fail
    refine (quiet_out K_7 HXO.out now HN.out).mono ?_
    rintro e w_9 ⟨rfl, F_9⟩
    have K_9 := K_7.calm F_9
    clear K_7
    have FW10 := FW8.step F_9 nop
    clear FW8 F_9
    go_wp2_with fail
    refine (rsince_fr _ now 0 HN.out (by unfold BigI; omega)).mono ?_
    rintro e w_11 ⟨rfl, F_11⟩
    have K_11 := K_9.calm F_11
    clear K_9
    have FW12 := FW10.step F_11 nop
    clear FW10 F_11
    go_wp2_with fail
    refine (bad_out K_11 HXO.out).mono ?_
    rintro e w_13 ⟨rfl, F_13⟩
    have K_13 := K_11.calm F_13
    clear K_11
    have FW14 := FW12.step F_13 nop
    clear FW12 F_13
    go_wp2_with fail
    refine (kept_out K_13 HXO.out).mono ?_
    rintro e w_15 ⟨rfl, F_15⟩
    have K_15 := K_13.calm F_15
    clear K_13
    have FW16 := FW14.step F_15 nop
    clear FW14 F_15
    have HF := Lib.hid FW16
    clear FW16 K_15
    go_wp2
    go_ret
    exact ⟨rfl, HF.out.below⟩

end Go.Proofs.Ytiahnklhgooigaa
