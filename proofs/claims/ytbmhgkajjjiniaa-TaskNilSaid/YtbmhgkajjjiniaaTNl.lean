/- TNl. -/
import Derived.Test.YtbmhgkajjjiniaaChecked
import Derived.WalkKit
import Derived.Laws.IdiomCopy
import Derived.Deep.QuietTactic
import Derived.BigQuiet
import Derived.Lib.Hide
import Derived.OpenShut
import Derived.StillTailTactics
import Derived.Deep.RegionWith
import Derived.Deep.RegionLaw
import Derived.Deep.Slices
import Derived.Deep.RegionHeld3
import Derived.OwnWalk
import Derived.Test.YtbmhgkajjjiniaaBase
import Derived.Test.YtbmhgkajjjiniaaCalm
import Derived.Test.YtbmhgkajjjiniaaCalmT
import Derived.Test.YtbmhgkajjjiniaaCel
import Derived.Test.YtbmhgkajjjiniaaApp
import Derived.Test.YtbmhgkajjjiniaaClk
import Derived.Test.YtbmhgkajjjiniaaRV
import Derived.Test.YtbmhgkajjjiniaaRVB
import Derived.Test.YtbmhgkajjjiniaaRVC
import Derived.Test.YtbmhgkajjjiniaaRVA
import Derived.Test.YtbmhgkajjjiniaaCeS
import Derived.Test.YtbmhgkajjjiniaaCeF
import Derived.Test.YtbmhgkajjjiniaaCeG
import Derived.Test.YtbmhgkajjjiniaaCeN
import Derived.Test.YtbmhgkajjjiniaaCeX
import Derived.Test.YtbmhgkajjjiniaaClkR
import Derived.Test.YtbmhgkajjjiniaaSn
import Derived.Test.YtbmhgkajjjiniaaSn2
import Derived.Test.YtbmhgkajjjiniaaCpL
import Derived.Test.YtbmhgkajjjiniaaCel9
import Derived.Test.YtbmhgkajjjiniaaTr
import Derived.Test.YtbmhgkajjjiniaaGCr
import Derived.Test.YtbmhgkajjjiniaaTCh
import Derived.Test.YtbmhgkajjjiniaaGSt
import Derived.Test.YtbmhgkajjjiniaaTOb
import Derived.Test.YtbmhgkajjjiniaaTTk
import Derived.Test.YtbmhgkajjjiniaaTBd
namespace Go.Proofs.Ytbmhgkajjjiniaa
open Go.RowKit
set_option linter.unusedVariables false
set_option linter.unusedSimpArgs false

/-! ### TaskNil -/
set_option maxRecDepth 100000 in
set_option maxHeartbeats 3200000 in
theorem obs_none (w : World) (p : Value) (k sg_ lim bk dl sp pr_ : Int) (la : Bool) (A : Option Addr) (n c : Nat) (now : Int) (hk : k < 1 ∨ 6 < k) :
    Calls Try.prog 13 #[.agg #[.int .u8 k, .int .i64 sg_, .int .i64 lim, .int .i64 bk, .int .i64 dl, .int .i64 sp, .int .u8 pr_, .bool la, .slice A n c], p, .int .i64 now] w (CPost w (false, false)) := by
  have B := alloc_is (w := w) (n := w.heap.size) (.cells #[.int .u8 k, .int .i64 sg_, .int .i64 lim, .int .i64 bk, .int .i64 dl, .int .i64 sp, .int .u8 pr_, .bool la, .slice A n c] 27) rfl
  have F := (Fr.refl (fun _ => False) w).alloc (.cells #[.int .u8 k, .int .i64 sg_, .int .i64 lim, .int .i64 bk, .int .i64 dl, .int .i64 sp, .int .u8 pr_, .bool la, .slice A n c] 27)
  generalize hw1 : w.alloc (.cells #[.int .u8 k, .int .i64 sg_, .int .i64 lim, .int .i64 bk, .int .i64 dl, .int .i64 sp, .int .u8 pr_, .bool la, .slice A n c] 27) = w1 at B F
  obtain ⟨c0, c1, c2, c3, c4, c5, c6, c7, c8⟩ := cells9 B
  have HF := Lib.hid F
  have j1 : (k == 1) = false := by simp; omega
  have j2 : (k == 2) = false := by simp; omega
  have j3 : (k == 3) = false := by simp; omega
  have j4 : (k == 4) = false := by simp; omega
  have j5 : (k == 5) = false := by simp; omega
  have j6 : (k == 6) = false := by simp; omega
  clear F B hk
  go_enter Try.func13, Try.ntmps13
  go_wp2
  go_ret2
  exact ⟨rfl, HF.out⟩
set_option maxRecDepth 100000 in
set_option maxHeartbeats 8000000 in
theorem TaskNil_walk (k sg_ lim bk dl sp pr_ : Int) (la : Bool) (A : Option Addr) (n c : Nat) (now : Int) (W : World) (w0 : (Lit.int .u8 k).wf = true) (w1 : (Lit.int .i64 sg_).wf = true) (w2 : (Lit.int .i64 lim).wf = true) (w3 : (Lit.int .i64 bk).wf = true) (w4 : (Lit.int .i64 dl).wf = true) (w5 : (Lit.int .i64 sp).wf = true) (w6 : (Lit.int .u8 pr_).wf = true) (w7 : (Lit.int .i64 now).wf = true) :
    Calls Try.prog 7 #[.agg #[.int .u8 k, .int .i64 sg_, .int .i64 lim, .int .i64 bk, .int .i64 dl, .int .i64 sp, .int .u8 pr_, .bool la, .slice A n c], .int .i64 now] W fun e w' => e = .returned (.bool true) ∧ Below W.heap.size W w' := by
  have hk := bounds_u8 w0
  have HN : Hid (BigI now) := Lib.hid (bounds_i64 w7)
  have HB0 : Hid (BigI 0) := Lib.hid (by unfold BigI; omega)
  clear w0 w1 w2 w3 w4 w5 w6 w7
  have B1 := alloc_is (w := W) (n := W.heap.size) (.cells #[.int .u8 k, .int .i64 sg_, .int .i64 lim, .int .i64 bk, .int .i64 dl, .int .i64 sp, .int .u8 pr_, .bool la, .slice A n c] 27) rfl
  have F1 := (Fr.refl (fun _ => False) W).alloc (.cells #[.int .u8 k, .int .i64 sg_, .int .i64 lim, .int .i64 bk, .int .i64 dl, .int .i64 sp, .int .u8 pr_, .bool la, .slice A n c] 27)
  generalize hw1 : W.alloc (.cells #[.int .u8 k, .int .i64 sg_, .int .i64 lim, .int .i64 bk, .int .i64 dl, .int .i64 sp, .int .u8 pr_, .bool la, .slice A n c] 27) = w1 at B1 F1
  obtain ⟨c0, c1, c2, c3, c4, c5, c6, c7, c8⟩ := cells9 B1
  by_cases h1 : 1 ≤ k
  · by_cases h6 : k ≤ 6
    · have z0 := frozen_of B1 0
      have B2 := set_at B1 0 (.int .u8 0)
      simp only [List.setIfInBounds_toArray, List.set_cons_zero] at B2
      have F2 := F1.setCell (p := ⟨W.heap.size, 0, none⟩) (fun (h : W.heap.size < W.heap.size) => absurd h (Nat.lt_irrefl _)) (.int .u8 0)
      generalize hw2 : w1.setCell ⟨W.heap.size, 0, none⟩ (.int .u8 0) = w2 at B2 F2
      obtain ⟨d0, d1, d2, d3, d4, d5, d6, d7, d8⟩ := cells9 B2
      have HB := Lib.hid B2
      have HF := Lib.hid F2
      have HKN : Hid ((0 : Int) < 1 ∨ 6 < (0 : Int)) := Lib.hid (.inl (by omega))
      clear B1 F1 B2 F2 hk
      go_enter Try.func7, Try.ntmps7
      have HS : Hid (∀ w', Fr (fun _ => False) w2 w' → w'.cell? ⟨W.heap.size, 0, none⟩ = some (.int .u8 0) ∧ w'.cell? ⟨W.heap.size, 1, none⟩ = some (.int .i64 sg_) ∧ w'.cell? ⟨W.heap.size, 2, none⟩ = some (.int .i64 lim) ∧ w'.cell? ⟨W.heap.size, 3, none⟩ = some (.int .i64 bk) ∧ w'.cell? ⟨W.heap.size, 4, none⟩ = some (.int .i64 dl) ∧ w'.cell? ⟨W.heap.size, 5, none⟩ = some (.int .i64 sp) ∧ w'.cell? ⟨W.heap.size, 6, none⟩ = some (.int .u8 pr_) ∧ w'.cell? ⟨W.heap.size, 7, none⟩ = some (.bool la) ∧ w'.cell? ⟨W.heap.size, 8, none⟩ = some (.slice A n c)) := Lib.hid (fun w' h => cells9 (h.at_ HB.out (fun x => x)))
      have HNW : Hid (∀ w', Fr (fun _ => False) w2 w' → Calls Try.prog 11 #[.int .i64 2] w' fun e w'' => ∃ s, e = .returned (.pointer (some ⟨s, 0, none⟩)) ∧ Fr (fun _ => False) w2 w'') := Lib.hid (fun w' h => (si_new w' 2 (N := 2) rfl).mono fun e w'' ⟨s, g, sh, h1, h2, h3, h4, h5⟩ => ⟨s, h1, h.step h4 nop⟩)
      have HOB : Hid (∀ w' p, Fr (fun _ => False) w2 w' → Calls Try.prog 13 #[.agg #[.int .u8 0, .int .i64 sg_, .int .i64 lim, .int .i64 bk, .int .i64 dl, .int .i64 sp, .int .u8 pr_, .bool la, .slice A n c], p, .int .i64 now] w' fun e w'' => e = .returned (.tuple #[.bool false, .bool false]) ∧ Fr (fun _ => False) w2 w'') := Lib.hid (fun w' p h => (obs_none w' p 0 sg_ lim bk dl sp pr_ la A n c now HKN.out).mono fun e w'' ⟨h1, h2⟩ => ⟨h1, h.step h2 nop⟩)
      have hF0 : Fr (fun _ => False) w2 w2.drew := (Fr.refl _ _).drew
      go_wp2_with fail
      clear hw1 hw2 c0 c1 c2 c3 c4 c5 c6 c7 c8 d0 d1 d2 d3 d4 d5 d6 d7 d8 z0
      go_region_held3 (fun w' => w'.cell? ⟨W.heap.size, 0, none⟩ = some (.int .u8 0) ∧ w'.cell? ⟨W.heap.size, 1, none⟩ = some (.int .i64 sg_) ∧ w'.cell? ⟨W.heap.size, 2, none⟩ = some (.int .i64 lim) ∧ w'.cell? ⟨W.heap.size, 3, none⟩ = some (.int .i64 bk) ∧ w'.cell? ⟨W.heap.size, 4, none⟩ = some (.int .i64 dl) ∧ w'.cell? ⟨W.heap.size, 5, none⟩ = some (.int .i64 sp) ∧ w'.cell? ⟨W.heap.size, 6, none⟩ = some (.int .u8 pr_) ∧ w'.cell? ⟨W.heap.size, 7, none⟩ = some (.bool la) ∧ w'.cell? ⟨W.heap.size, 8, none⟩ = some (.slice A n c))
        (exact HS.out _ (by assumption))
        (first
          | (go_at_call 11; refine (HNW.out _ (by assumption)).mono ?_; rintro e wA ⟨s, rfl, FA⟩)
          | (go_at_call 13; refine (HOB.out _ _ (by assumption)).mono ?_; rintro e wB ⟨rfl, FB⟩))
      have HFB := Lib.hid (HF.out.step FB nop)
      have HBB := Lib.hid (FB.at_ HB.out (fun x => x))
      clear FA FB hF0 HS HNW HOB HB HF
      generalize wB = wx at HFB HBB ⊢
      go_wp2_with fail
      refine (bad_any _).mono ?_
      rintro e w4 ⟨rfl, F4⟩
      have HF4 := Lib.hid (HFB.out.step F4 nop)
      have HB4 := Lib.hid (F4.at_ HBB.out (fun x => x))
      clear F4 HFB HBB
      go_wp2_with fail
      refine (si_new _ 1 (N := 1) rfl).mono ?_
      rintro e w5 ⟨s1, g1, sh1, rfl, hsl1, S5, F5, hup1⟩
      have HF5 := Lib.hid (HF4.out.step F5 nop)
      have HB5 := Lib.hid (F5.at_ HB4.out (fun x => x))
      clear F5 hsl1 S5 hup1 HF4 HB4
      go_wp2_with fail
      refine (task_run_nil _ now _).mono ?_
      rintro e w6 ⟨rfl, F6⟩
      have HF6 := Lib.hid (HF5.out.step F6 nop)
      have HB6 := Lib.hid (F6.at_ HB5.out (fun x => x))
      clear F6 HF5 HB5
      go_wp2_with fail
      refine (task_on_nil _).mono ?_
      rintro e w7 ⟨rfl, F7⟩
      have HF7 := Lib.hid (HF6.out.step F7 nop)
      have HB7 := Lib.hid (F7.at_ HB6.out (fun x => x))
      clear F7 HF6 HB6
      go_wp2_with fail
      refine (task_gate_nil _).mono ?_
      rintro e w8 ⟨rfl, F8⟩
      have HF8 := Lib.hid (HF7.out.step F8 nop)
      have HB8 := Lib.hid (F8.at_ HB7.out (fun x => x))
      clear F8 HF7 HB7
      obtain ⟨c0, c1, c2, c3, c4, c5, c6, c7, c8⟩ := cells9 HB8.out
      go_wp2_with fail
      refine (task_new _ 0 sg_ lim bk dl sp pr_ la A n c).mono ?_
      rintro e w9 ⟨b, rfl, T9, hb1, hb2, F9⟩
      have HF9 := Lib.hid (HF8.out.step F9 nop)
      have HWB : Hid (W.heap.size ≤ b) := Lib.hid (by have := HF8.out.size; omega)
      have HT9 := Lib.hid T9
      clear F9 HF8 T9 hb1 hb2 c0 c1 c2 c3 c4 c5 c6 c7 c8
      go_wp2_with fail
      refine (task_run_of HT9.out HB0.out HN.out (obs_none _ _ 0 sg_ lim bk dl sp pr_ la A n c now HKN.out) (r := (false, false, 0)) rfl).mono ?_
      rintro e w10 ⟨rfl, -, -, F10⟩
      have HF10 := Lib.hid (HF9.out.step F10 (fun i h => by subst h; exact HWB.out))
      clear F10 HF9
      go_wp2
      go_ret
      exact ⟨rfl, HF10.out.below⟩
    · have HB := Lib.hid B1
      have HF := Lib.hid F1
      have HKN : Hid (k < 1 ∨ 6 < k) := Lib.hid (by omega)
      clear B1 F1 hk
      go_enter Try.func7, Try.ntmps7
      have HS : Hid (∀ w', Fr (fun _ => False) w1 w' → w'.cell? ⟨W.heap.size, 0, none⟩ = some (.int .u8 k) ∧ w'.cell? ⟨W.heap.size, 1, none⟩ = some (.int .i64 sg_) ∧ w'.cell? ⟨W.heap.size, 2, none⟩ = some (.int .i64 lim) ∧ w'.cell? ⟨W.heap.size, 3, none⟩ = some (.int .i64 bk) ∧ w'.cell? ⟨W.heap.size, 4, none⟩ = some (.int .i64 dl) ∧ w'.cell? ⟨W.heap.size, 5, none⟩ = some (.int .i64 sp) ∧ w'.cell? ⟨W.heap.size, 6, none⟩ = some (.int .u8 pr_) ∧ w'.cell? ⟨W.heap.size, 7, none⟩ = some (.bool la) ∧ w'.cell? ⟨W.heap.size, 8, none⟩ = some (.slice A n c)) := Lib.hid (fun w' h => cells9 (h.at_ HB.out (fun x => x)))
      have HNW : Hid (∀ w', Fr (fun _ => False) w1 w' → Calls Try.prog 11 #[.int .i64 2] w' fun e w'' => ∃ s, e = .returned (.pointer (some ⟨s, 0, none⟩)) ∧ Fr (fun _ => False) w1 w'') := Lib.hid (fun w' h => (si_new w' 2 (N := 2) rfl).mono fun e w'' ⟨s, g, sh, h1, h2, h3, h4, h5⟩ => ⟨s, h1, h.step h4 nop⟩)
      have HOB : Hid (∀ w' p, Fr (fun _ => False) w1 w' → Calls Try.prog 13 #[.agg #[.int .u8 k, .int .i64 sg_, .int .i64 lim, .int .i64 bk, .int .i64 dl, .int .i64 sp, .int .u8 pr_, .bool la, .slice A n c], p, .int .i64 now] w' fun e w'' => e = .returned (.tuple #[.bool false, .bool false]) ∧ Fr (fun _ => False) w1 w'') := Lib.hid (fun w' p h => (obs_none w' p k sg_ lim bk dl sp pr_ la A n c now HKN.out).mono fun e w'' ⟨h1, h2⟩ => ⟨h1, h.step h2 nop⟩)
      have hF0 : Fr (fun _ => False) w1 w1.drew := (Fr.refl _ _).drew
      go_wp2_with fail
      clear hw1 c0 c1 c2 c3 c4 c5 c6 c7 c8
      go_region_held3 (fun w' => w'.cell? ⟨W.heap.size, 0, none⟩ = some (.int .u8 k) ∧ w'.cell? ⟨W.heap.size, 1, none⟩ = some (.int .i64 sg_) ∧ w'.cell? ⟨W.heap.size, 2, none⟩ = some (.int .i64 lim) ∧ w'.cell? ⟨W.heap.size, 3, none⟩ = some (.int .i64 bk) ∧ w'.cell? ⟨W.heap.size, 4, none⟩ = some (.int .i64 dl) ∧ w'.cell? ⟨W.heap.size, 5, none⟩ = some (.int .i64 sp) ∧ w'.cell? ⟨W.heap.size, 6, none⟩ = some (.int .u8 pr_) ∧ w'.cell? ⟨W.heap.size, 7, none⟩ = some (.bool la) ∧ w'.cell? ⟨W.heap.size, 8, none⟩ = some (.slice A n c))
        (exact HS.out _ (by assumption))
        (first
          | (go_at_call 11; refine (HNW.out _ (by assumption)).mono ?_; rintro e wA ⟨s, rfl, FA⟩)
          | (go_at_call 13; refine (HOB.out _ _ (by assumption)).mono ?_; rintro e wB ⟨rfl, FB⟩))
      have HFB := Lib.hid (HF.out.step FB nop)
      have HBB := Lib.hid (FB.at_ HB.out (fun x => x))
      clear FA FB hF0 HS HNW HOB HB HF
      generalize wB = wx at HFB HBB ⊢
      go_wp2_with fail
      refine (bad_any _).mono ?_
      rintro e w4 ⟨rfl, F4⟩
      have HF4 := Lib.hid (HFB.out.step F4 nop)
      have HB4 := Lib.hid (F4.at_ HBB.out (fun x => x))
      clear F4 HFB HBB
      go_wp2_with fail
      refine (si_new _ 1 (N := 1) rfl).mono ?_
      rintro e w5 ⟨s1, g1, sh1, rfl, hsl1, S5, F5, hup1⟩
      have HF5 := Lib.hid (HF4.out.step F5 nop)
      have HB5 := Lib.hid (F5.at_ HB4.out (fun x => x))
      clear F5 hsl1 S5 hup1 HF4 HB4
      go_wp2_with fail
      refine (task_run_nil _ now _).mono ?_
      rintro e w6 ⟨rfl, F6⟩
      have HF6 := Lib.hid (HF5.out.step F6 nop)
      have HB6 := Lib.hid (F6.at_ HB5.out (fun x => x))
      clear F6 HF5 HB5
      go_wp2_with fail
      refine (task_on_nil _).mono ?_
      rintro e w7 ⟨rfl, F7⟩
      have HF7 := Lib.hid (HF6.out.step F7 nop)
      have HB7 := Lib.hid (F7.at_ HB6.out (fun x => x))
      clear F7 HF6 HB6
      go_wp2_with fail
      refine (task_gate_nil _).mono ?_
      rintro e w8 ⟨rfl, F8⟩
      have HF8 := Lib.hid (HF7.out.step F8 nop)
      have HB8 := Lib.hid (F8.at_ HB7.out (fun x => x))
      clear F8 HF7 HB7
      obtain ⟨c0, c1, c2, c3, c4, c5, c6, c7, c8⟩ := cells9 HB8.out
      go_wp2_with fail
      refine (task_new _ k sg_ lim bk dl sp pr_ la A n c).mono ?_
      rintro e w9 ⟨b, rfl, T9, hb1, hb2, F9⟩
      have HF9 := Lib.hid (HF8.out.step F9 nop)
      have HWB : Hid (W.heap.size ≤ b) := Lib.hid (by have := HF8.out.size; omega)
      have HT9 := Lib.hid T9
      clear F9 HF8 T9 hb1 hb2 c0 c1 c2 c3 c4 c5 c6 c7 c8
      go_wp2_with fail
      refine (task_run_of HT9.out HB0.out HN.out (obs_none _ _ k sg_ lim bk dl sp pr_ la A n c now HKN.out) (r := (false, false, 0)) rfl).mono ?_
      rintro e w10 ⟨rfl, -, -, F10⟩
      have HF10 := Lib.hid (HF9.out.step F10 (fun i h => by subst h; exact HWB.out))
      clear F10 HF9
      go_wp2
      go_ret
      exact ⟨rfl, HF10.out.below⟩
  · have HB := Lib.hid B1
    have HF := Lib.hid F1
    have HKN : Hid (k < 1 ∨ 6 < k) := Lib.hid (by omega)
    clear B1 F1 hk
    go_enter Try.func7, Try.ntmps7
    have HS : Hid (∀ w', Fr (fun _ => False) w1 w' → w'.cell? ⟨W.heap.size, 0, none⟩ = some (.int .u8 k) ∧ w'.cell? ⟨W.heap.size, 1, none⟩ = some (.int .i64 sg_) ∧ w'.cell? ⟨W.heap.size, 2, none⟩ = some (.int .i64 lim) ∧ w'.cell? ⟨W.heap.size, 3, none⟩ = some (.int .i64 bk) ∧ w'.cell? ⟨W.heap.size, 4, none⟩ = some (.int .i64 dl) ∧ w'.cell? ⟨W.heap.size, 5, none⟩ = some (.int .i64 sp) ∧ w'.cell? ⟨W.heap.size, 6, none⟩ = some (.int .u8 pr_) ∧ w'.cell? ⟨W.heap.size, 7, none⟩ = some (.bool la) ∧ w'.cell? ⟨W.heap.size, 8, none⟩ = some (.slice A n c)) := Lib.hid (fun w' h => cells9 (h.at_ HB.out (fun x => x)))
    have HNW : Hid (∀ w', Fr (fun _ => False) w1 w' → Calls Try.prog 11 #[.int .i64 2] w' fun e w'' => ∃ s, e = .returned (.pointer (some ⟨s, 0, none⟩)) ∧ Fr (fun _ => False) w1 w'') := Lib.hid (fun w' h => (si_new w' 2 (N := 2) rfl).mono fun e w'' ⟨s, g, sh, h1, h2, h3, h4, h5⟩ => ⟨s, h1, h.step h4 nop⟩)
    have HOB : Hid (∀ w' p, Fr (fun _ => False) w1 w' → Calls Try.prog 13 #[.agg #[.int .u8 k, .int .i64 sg_, .int .i64 lim, .int .i64 bk, .int .i64 dl, .int .i64 sp, .int .u8 pr_, .bool la, .slice A n c], p, .int .i64 now] w' fun e w'' => e = .returned (.tuple #[.bool false, .bool false]) ∧ Fr (fun _ => False) w1 w'') := Lib.hid (fun w' p h => (obs_none w' p k sg_ lim bk dl sp pr_ la A n c now HKN.out).mono fun e w'' ⟨h1, h2⟩ => ⟨h1, h.step h2 nop⟩)
    have hF0 : Fr (fun _ => False) w1 w1.drew := (Fr.refl _ _).drew
    go_wp2_with fail
    clear hw1 c0 c1 c2 c3 c4 c5 c6 c7 c8
    go_region_held3 (fun w' => w'.cell? ⟨W.heap.size, 0, none⟩ = some (.int .u8 k) ∧ w'.cell? ⟨W.heap.size, 1, none⟩ = some (.int .i64 sg_) ∧ w'.cell? ⟨W.heap.size, 2, none⟩ = some (.int .i64 lim) ∧ w'.cell? ⟨W.heap.size, 3, none⟩ = some (.int .i64 bk) ∧ w'.cell? ⟨W.heap.size, 4, none⟩ = some (.int .i64 dl) ∧ w'.cell? ⟨W.heap.size, 5, none⟩ = some (.int .i64 sp) ∧ w'.cell? ⟨W.heap.size, 6, none⟩ = some (.int .u8 pr_) ∧ w'.cell? ⟨W.heap.size, 7, none⟩ = some (.bool la) ∧ w'.cell? ⟨W.heap.size, 8, none⟩ = some (.slice A n c))
      (exact HS.out _ (by assumption))
      (first
        | (go_at_call 11; refine (HNW.out _ (by assumption)).mono ?_; rintro e wA ⟨s, rfl, FA⟩)
        | (go_at_call 13; refine (HOB.out _ _ (by assumption)).mono ?_; rintro e wB ⟨rfl, FB⟩))
    have HFB := Lib.hid (HF.out.step FB nop)
    have HBB := Lib.hid (FB.at_ HB.out (fun x => x))
    clear FA FB hF0 HS HNW HOB HB HF
    generalize wB = wx at HFB HBB ⊢
    go_wp2_with fail
    refine (bad_any _).mono ?_
    rintro e w4 ⟨rfl, F4⟩
    have HF4 := Lib.hid (HFB.out.step F4 nop)
    have HB4 := Lib.hid (F4.at_ HBB.out (fun x => x))
    clear F4 HFB HBB
    go_wp2_with fail
    refine (si_new _ 1 (N := 1) rfl).mono ?_
    rintro e w5 ⟨s1, g1, sh1, rfl, hsl1, S5, F5, hup1⟩
    have HF5 := Lib.hid (HF4.out.step F5 nop)
    have HB5 := Lib.hid (F5.at_ HB4.out (fun x => x))
    clear F5 hsl1 S5 hup1 HF4 HB4
    go_wp2_with fail
    refine (task_run_nil _ now _).mono ?_
    rintro e w6 ⟨rfl, F6⟩
    have HF6 := Lib.hid (HF5.out.step F6 nop)
    have HB6 := Lib.hid (F6.at_ HB5.out (fun x => x))
    clear F6 HF5 HB5
    go_wp2_with fail
    refine (task_on_nil _).mono ?_
    rintro e w7 ⟨rfl, F7⟩
    have HF7 := Lib.hid (HF6.out.step F7 nop)
    have HB7 := Lib.hid (F7.at_ HB6.out (fun x => x))
    clear F7 HF6 HB6
    go_wp2_with fail
    refine (task_gate_nil _).mono ?_
    rintro e w8 ⟨rfl, F8⟩
    have HF8 := Lib.hid (HF7.out.step F8 nop)
    have HB8 := Lib.hid (F8.at_ HB7.out (fun x => x))
    clear F8 HF7 HB7
    obtain ⟨c0, c1, c2, c3, c4, c5, c6, c7, c8⟩ := cells9 HB8.out
    go_wp2_with fail
    refine (task_new _ k sg_ lim bk dl sp pr_ la A n c).mono ?_
    rintro e w9 ⟨b, rfl, T9, hb1, hb2, F9⟩
    have HF9 := Lib.hid (HF8.out.step F9 nop)
    have HWB : Hid (W.heap.size ≤ b) := Lib.hid (by have := HF8.out.size; omega)
    have HT9 := Lib.hid T9
    clear F9 HF8 T9 hb1 hb2 c0 c1 c2 c3 c4 c5 c6 c7 c8
    go_wp2_with fail
    refine (task_run_of HT9.out HB0.out HN.out (obs_none _ _ k sg_ lim bk dl sp pr_ la A n c now HKN.out) (r := (false, false, 0)) rfl).mono ?_
    rintro e w10 ⟨rfl, -, -, F10⟩
    have HF10 := Lib.hid (HF9.out.step F10 (fun i h => by subst h; exact HWB.out))
    clear F10 HF9
    go_wp2
    go_ret
    exact ⟨rfl, HF10.out.below⟩

end Go.Proofs.Ytbmhgkajjjiniaa
