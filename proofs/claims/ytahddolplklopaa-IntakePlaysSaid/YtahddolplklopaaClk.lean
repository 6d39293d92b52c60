/- Clk. -/
import Derived.Test.YtahddolplklopaaChecked
import Derived.WalkKit
import Derived.Laws.IdiomCopy
import Derived.Deep.QuietTactic
import Derived.BigQuiet
import Derived.Lib.Hide
import Derived.OpenShut
import Derived.StillTailTactics
import Derived.Deep.RegionWith
import Derived.Deep.RegionLaw
import Derived.Deep.Slices
import Derived.Deep.RegionHeld3
import Derived.OwnWalk
import Derived.Test.YtahddolplklopaaBase
namespace Go.Proofs.Ytahddolplklopaa
open Go.RowKit
set_option linter.unusedVariables false
set_option linter.unusedSimpArgs false

/-! ### clock -/
section
attribute [local go_sem] max_ii min_ii
/-- Within bounds. -/
def hd (t : Int) : Int := if t < 0 then 0 else if t > 1099511627776 then 1099511627776 else t
/-- How long ago. -/
def sn (a b : Int) : Int := if a ≤ b then 0 else if a - b > 1099511627776 then 1099511627776 else a - b

set_option maxHeartbeats 400000 in
theorem held_any (w : World) (t : Int) : Calls Try.prog 37 #[.int .i64 t] w fun e w' => e = .returned (.int .i64 (hd t)) ∧ w = w' := by
  rcases (by omega : t < 0 ∨ 0 ≤ t ∧ t ≤ 1099511627776 ∨ 1099511627776 < t) with h | ⟨h, h1⟩ | h
  · go_enter Try.func37, Try.ntmps37
    go_wp2
    go_ret
    exact ⟨by simp [hd, h], rfl⟩
  · go_enter Try.func37, Try.ntmps37
    go_wp2
    go_ret
    exact ⟨by simp only [hd]; rw [if_neg (by omega), if_neg (by omega)]; rfl, rfl⟩
  · have h0 : ¬ t < 0 := by omega
    go_enter Try.func37, Try.ntmps37
    go_wp2
    go_ret
    exact ⟨by simp only [hd]; rw [if_neg (by omega), if_pos (by omega)]; rfl, rfl⟩

def BigI (a : Int) : Prop := -9223372036854775808 ≤ a ∧ a ≤ 9223372036854775807
theorem wr_in {n : Int} (h : BigI n) : wrap64 n = n := by unfold BigI at h; unfold wrap64; omega
theorem sub_in {a b : Int} (ha : BigI a) (hb : BigI b) (h : ¬ wrap64 (a - b) < 0) (hab : ¬ a ≤ b) : wrap64 (a - b) = a - b := by unfold BigI at *; unfold wrap64 at *; omega
theorem sub_out {a b : Int} (ha : BigI a) (hb : BigI b) (h : wrap64 (a - b) < 0) (hab : ¬ a ≤ b) : sn a b = 1099511627776 := by
  unfold sn; rw [if_neg hab, if_pos]; unfold BigI at *; unfold wrap64 at *; omega
theorem hd_sn {a b : Int} (hab : ¬ a ≤ b) : hd (a - b) = sn a b := by
  unfold hd sn; rw [if_neg hab, if_neg (by omega)]

def SincePost (w : World) (r : Int) (e : Ending) (w' : World) : Prop := e = .returned (.int .i64 r) ∧ w = w'

set_option maxHeartbeats 400000 in
theorem since_any (w : World) (a b : Int) (ha : BigI a) (hb : BigI b) : Calls Try.prog 28 #[.int .i64 a, .int .i64 b] w (SincePost w (sn a b)) := by
  have HA := Lib.hid ha
  have HB := Lib.hid hb
  clear ha hb
  by_cases hab : a ≤ b
  · go_enter Try.func28, Try.ntmps28
    go_wp2
    go_ret
    exact ⟨by simp [sn, hab], rfl⟩
  · have hab' : b < a := by omega
    by_cases h : wrap64 (a - b) < 0
    · have HN := Lib.hid hab
      clear hab
      go_enter Try.func28, Try.ntmps28
      go_wp2
      go_ret
      exact ⟨by rw [sub_out HA.out HB.out h (by have := HN.out; omega)]; rfl, rfl⟩
    · have HN := Lib.hid hab
      have HW := Lib.hid (sub_in HA.out HB.out h hab)
      clear hab
      go_enter Try.func28, Try.ntmps28
      go_wp2_with fail
      refine (held_any _ _).mono ?_
      rintro e w1 ⟨rfl, rfl⟩
      go_wp2
      go_ret
      exact ⟨by rw [← hd_sn (by have := HN.out; omega)]; exact congrArg (fun x => Ending.returned (.int .i64 (hd x))) HW.out, rfl⟩
end

end Go.Proofs.Ytahddolplklopaa
