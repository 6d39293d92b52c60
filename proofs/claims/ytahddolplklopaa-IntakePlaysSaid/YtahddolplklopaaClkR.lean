/- ClkR. -/
import Derived.Test.YtahddolplklopaaChecked
import Derived.WalkKit
import Derived.Laws.IdiomCopy
import Derived.Deep.QuietTactic
import Derived.BigQuiet
import Derived.Lib.Hide
import Derived.OpenShut
import Derived.StillTailTactics
import Derived.Deep.RegionWith
import Derived.Deep.RegionLaw
import Derived.Deep.Slices
import Derived.Deep.RegionHeld3
import Derived.OwnWalk
import Derived.Test.YtahddolplklopaaBase
import Derived.Test.YtahddolplklopaaClk
namespace Go.Proofs.Ytahddolplklopaa
open Go.RowKit
set_option linter.unusedVariables false
set_option linter.unusedSimpArgs false

/-! ### handbellref03 -/
set_option maxHeartbeats 400000 in
theorem rheld_any (w : World) (t : Int) : Calls Try.prog 43 #[.int .i64 t] w fun e w' => e = .returned (.int .i64 (hd t)) ∧ w = w' := by
  rcases (by omega : t < 0 ∨ 0 ≤ t ∧ t ≤ 1099511627776 ∨ 1099511627776 < t) with h | ⟨h, h1⟩ | h
  · go_enter Try.func43, Try.ntmps43
    go_wp2
    go_ret
    exact ⟨by simp [hd, h], rfl⟩
  · go_enter Try.func43, Try.ntmps43
    go_wp2
    go_ret
    exact ⟨by simp only [hd]; rw [if_neg (by omega), if_neg (by omega)]; rfl, rfl⟩
  · have h0 : ¬ t < 0 := by omega
    go_enter Try.func43, Try.ntmps43
    go_wp2
    go_ret
    exact ⟨by simp only [hd]; rw [if_neg (by omega), if_pos (by omega)]; rfl, rfl⟩

theorem half (a : Int) : a - 1 ≤ 2 * Int.tdiv a 2 ∧ 2 * Int.tdiv a 2 ≤ a + 1 ∧ (0 ≤ a → 2 * Int.tdiv a 2 ≤ a) := by
  have h := Int.mul_tdiv_add_tmod a 2
  have h2 : -2 < Int.tmod a 2 ∧ Int.tmod a 2 < 2 := ⟨Int.lt_tmod_of_pos a (by omega), Int.tmod_lt_of_pos a (by omega)⟩
  have h3 : 0 ≤ a → 0 ≤ Int.tmod a 2 := Int.tmod_nonneg 2
  omega

theorem half_eq {a b : Int} (ha : BigI a) (hb : BigI b) : wrap64 (wrap64 (a.tdiv 2) - wrap64 (b.tdiv 2)) = a.tdiv 2 - b.tdiv 2 := by
  have h1 := half a
  have h2 := half b
  unfold BigI at *
  generalize a.tdiv 2 = x at *
  generalize b.tdiv 2 = y at *
  rw [wr_in (n := x) (by unfold BigI; omega), wr_in (n := y) (by unfold BigI; omega), wr_in (n := x - y) (by unfold BigI; omega)]
theorem sn_big {a b : Int} (ha : BigI a) (hb : BigI b) (h : 1099511627776 < wrap64 (wrap64 (a.tdiv 2) - wrap64 (b.tdiv 2))) : sn a b = 1099511627776 := by
  rw [half_eq ha hb] at h
  have h1 := half a
  have h2 := half b
  unfold sn; rw [if_neg (by omega), if_pos (by omega)]
theorem sn_low {a b : Int} (ha : BigI a) (hb : BigI b) (h : wrap64 (wrap64 (a.tdiv 2) - wrap64 (b.tdiv 2)) < -1099511627776) : sn a b = 0 := by
  rw [half_eq ha hb] at h
  have h1 := half a
  have h2 := half b
  unfold sn; rw [if_pos (by omega)]
theorem sn_mid {a b : Int} (ha : BigI a) (hb : BigI b) (h : wrap64 (wrap64 (a.tdiv 2) - wrap64 (b.tdiv 2)) ≤ 1099511627776) (h' : -1099511627776 ≤ wrap64 (wrap64 (a.tdiv 2) - wrap64 (b.tdiv 2))) : hd (wrap64 (a - b)) = sn a b := by
  rw [half_eq ha hb] at h h'
  have h1 := half a
  have h2 := half b
  rw [wr_in (by unfold BigI at *; omega)]
  unfold hd sn
  by_cases c : a ≤ b
  · rw [if_pos c]
    by_cases c2 : a - b < 0
    · rw [if_pos c2]
    · rw [if_neg c2, if_neg (by omega)]; omega
  · rw [if_neg c, if_neg (by omega)]

set_option maxHeartbeats 800000 in
theorem rsince_any (w : World) (a b : Int) (ha : BigI a) (hb : BigI b) : Calls Try.prog 34 #[.int .i64 a, .int .i64 b] w (SincePost w (sn a b)) := by
  have HA := Lib.hid ha
  have HB := Lib.hid hb
  clear ha hb
  by_cases h1 : 1099511627776 < wrap64 (wrap64 (a.tdiv 2) - wrap64 (b.tdiv 2))
  · have H1 := Lib.hid (sn_big HA.out HB.out h1)
    go_enter Try.func34, Try.ntmps34
    go_wp2
    go_ret
    exact ⟨by rw [H1.out]; rfl, rfl⟩
  · by_cases h2 : wrap64 (wrap64 (a.tdiv 2) - wrap64 (b.tdiv 2)) < -1099511627776
    · have H1 := Lib.hid (sn_low HA.out HB.out h2)
      go_enter Try.func34, Try.ntmps34
      go_wp2
      go_ret
      exact ⟨by rw [H1.out]; rfl, rfl⟩
    · have H1 := Lib.hid (sn_mid HA.out HB.out (by omega) (by omega))
      go_enter Try.func34, Try.ntmps34
      go_wp2_with fail
      refine (rheld_any _ _).mono ?_
      rintro e w1 ⟨rfl, rfl⟩
      go_wp2
      go_ret
      exact ⟨by rw [← H1.out]; rfl, rfl⟩

end Go.Proofs.Ytahddolplklopaa
