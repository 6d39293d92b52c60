/- TSt. -/
import Derived.Test.YtgknbhjhkdohkaaChecked
import Derived.WalkKit
import Derived.Laws.IdiomCopy
import Derived.Deep.QuietTactic
import Derived.BigQuiet
import Derived.Lib.Hide
import Derived.OpenShut
import Derived.StillTailTactics
import Derived.Deep.RegionWith
import Derived.Deep.RegionLaw
import Derived.Deep.Slices
import Derived.Deep.RegionHeld3
import Derived.OwnWalk
import Derived.Test.YtgknbhjhkdohkaaBase
import Derived.Test.YtgknbhjhkdohkaaCalm
import Derived.Test.YtgknbhjhkdohkaaCalmT
import Derived.Test.YtgknbhjhkdohkaaCel
import Derived.Test.YtgknbhjhkdohkaaApp
import Derived.Test.YtgknbhjhkdohkaaClk
import Derived.Test.YtgknbhjhkdohkaaRV
import Derived.Test.YtgknbhjhkdohkaaRVB
import Derived.Test.YtgknbhjhkdohkaaRVC
import Derived.Test.YtgknbhjhkdohkaaRVA
import Derived.Test.YtgknbhjhkdohkaaCeS
import Derived.Test.YtgknbhjhkdohkaaCeF
import Derived.Test.YtgknbhjhkdohkaaCeG
import Derived.Test.YtgknbhjhkdohkaaCeN
import Derived.Test.YtgknbhjhkdohkaaCeX
import Derived.Test.YtgknbhjhkdohkaaCeL
import Derived.Test.YtgknbhjhkdohkaaCel9
import Derived.Test.YtgknbhjhkdohkaaTr
import Derived.Test.YtgknbhjhkdohkaaTLa
namespace Go.Proofs.Ytgknbhjhkdohkaa
open Go.RowKit
set_option linter.unusedVariables false
set_option linter.unusedSimpArgs false

/-! ### TrendStill -/
def gs_ (v st : Int) (k : Nat) : List (Int × Int) := gl (fun i => v + (i : Int) * st) (fun i => (i : Int)) k
def SlRel (W : World) (s g : Nat) (sh : List (Nat × Nat)) (v st : Int) (k : Nat) (i : Value) (wr : World) : Prop :=
  ∃ (j : Nat) (t : Int), i = .int .i64 j ∧ j ≤ k ∧ St wr s g sh [(t, false, gs_ v st j)] ∧ Fr (fun _ => False) W wr
theorem prod_in {j : Nat} {st : Int} (hj : j ≤ 15) (hs : -128 ≤ st ∧ st ≤ 127) : -2000 ≤ (j : Int) * st ∧ (j : Int) * st ≤ 2000 := by
  have h1 : (j : Int) * st ≤ (j : Int) * 128 := Int.mul_le_mul_of_nonneg_left (by omega) (by omega)
  have h2 : (j : Int) * (-128) ≤ (j : Int) * st := Int.mul_le_mul_of_nonneg_left (by omega) (by omega)
  omega
theorem still_small {v st : Int} {k : Nat} (hk : k ≤ 15) (hv : -2147483648 ≤ v ∧ v ≤ 2147483647) (hs : -128 ≤ st ∧ st ≤ 127) : SmallV (gs_ v st k) := by
  intro y hy
  unfold gs_ gl RV.last at hy
  have := List.mem_of_mem_drop hy
  obtain ⟨i, hi, rfl⟩ := List.mem_map.1 this
  have hi2 : i < k := by simpa using hi
  have := prod_in (j := i) (by omega) hs
  simp only
  omega
/-- A span's change. -/
theorem still_ch {v st : Int} {k : Nat} {sp : Int} (hk1 : 0 < k) (hk : k ≤ 15) (h0 : 0 ≤ sp) (h29 : sp ≤ 29) {w : Nat} (hw : (w : Int) = if (k : Int) - 1 < sp then (k : Int) - 1 else sp) :
    chv (sn ((k : Int) - 1) sp) (gs_ v st k) = ((w : Int) * st, true) := by
  have hs : sn ((k : Int) - 1) sp = (((k - 1) - w : Nat) : Int) := by unfold sn; split at hw <;> split <;> (try split) <;> omega
  have hwk : w ≤ k - 1 := by split at hw <;> omega
  rw [hs]
  have hv := gl_vl (fun i => v + (i : Int) * st) (fun i => (i : Int)) hk1
  have ho : od ((((k - 1) - w : Nat) : Int)) (gs_ v st k) = (v + (((k - 1) - w : Nat) : Int) * st, true) := by
    rcases gl_od (fun i => v + (i : Int) * st) (fun i => (i : Int)) k ((((k - 1) - w : Nat) : Int)) with ⟨j, h1, h2, h3, h4, h5⟩ | ⟨h1, h2⟩
    · have hj : j = k - 1 - w := by
        have a1 : k - 1 - w ≤ j := by omega
        by_cases e : j = k - 1 - w
        · exact e
        · have := h5 (k - 1 - w) (by omega) (by omega); omega
      unfold gs_; rw [h3, hj]
    · have := h2 (k - 1) (by omega) (by omega); omega
  have hv2 : vl (gs_ v st k) = (v + ((k - 1 : Nat) : Int) * st, ((k - 1 : Nat) : Int), true) := hv
  unfold chv
  rw [ho, hv2, if_pos rfl]
  have : (((k - 1) - w : Nat) : Int) = ((k - 1 : Nat) : Int) - (w : Int) := by omega
  rw [this, Int.sub_mul]
  congr 1
  simp only
  omega
set_option maxRecDepth 100000 in
set_option maxHeartbeats 3200000 in
theorem TrendStill_walk (v st n sp : Int) (W : World) (w0 : (Lit.int .i32 v).wf = true) (w1 : (Lit.int .i8 st).wf = true) (w2 : (Lit.int .u8 n).wf = true) (w3 : (Lit.int .u8 sp).wf = true) :
    Calls Try.prog 4 #[.int .i32 v, .int .i8 st, .int .u8 n, .int .u8 sp] W fun e w' => e = .returned (.bool true) ∧ Below W.heap.size W w' := by
  have hv := bounds_i32 w0
  have hst := bounds_i8 w1
  have hn := bounds_u8 w2
  have hsp := bounds_u8 w3
  clear w0 w1 w2 w3
  obtain ⟨k, hk⟩ : ∃ k : Nat, 1 + n % 15 = (k : Int) := ⟨(1 + n % 15).toNat, by omega⟩
  have hk15 : k ≤ 15 := by omega
  have hk1 : 0 < k := by omega
  have HK := Lib.hid hk
  clear hk
  have hp0 : 0 ≤ sp % 30 ∧ sp % 30 ≤ 29 := by omega
  have HST := Lib.hid hst
  have HV := Lib.hid hv
  go_enter Try.func4, Try.ntmps4
  go_wp2_with fail
  refine (changes_any _).mono ?_
  rintro e w1 ⟨rfl, F1⟩
  go_wp2_with fail
  rw [HK.out]
  refine (store_new _ 1).mono ?_
  rintro e w2 ⟨s, g, sh, rfl, hsl, K2, F2, hup0⟩
  rw [show nsig 1 = 1 from by decide] at hsl K2
  have hup : ∀ i, inSt s g sh i → W.heap.size ≤ i := fun i hi => Nat.le_trans F1.size (hup0 i hi)
  have HUP := Lib.hid hup
  have HI : Hid (0 < sh.length) := Lib.hid (by omega)
  have FW := F1.step F2 nop
  clear hup hup0 hsl F1 F2
  have HK2 := Lib.hid K2
  have HFW := Lib.hid FW
  clear K2 FW
  go_wp2_with fail
  go_loopw [11] (fun i wr => SlRel W s g sh v st k i wr) (fun i _ => k - (intOf i).toNat)
  case atStart => exact ⟨0, 0, rfl, Nat.zero_le _, HK2.out, HFW.out⟩
  case round =>
    clear HK2 HFW
    obtain ⟨j, t, rfl, hj, Kj, Fj⟩ := hrel
    by_cases hlt : j < k
    · have hlt' : (j : Int) < (k : Int) := by omega
      have hpr := prod_in (j := j) (by omega) HST.out
      go_wp2_with fail
      refine (put_x Kj (x := 0) (i := 0) rfl HI.out (j : Int) 0 (v + (j : Int) * st) false).mono ?_
      rintro e w3 ⟨rfl, K3, F3⟩
      have K4 : St w3 s g sh [((j : Int), false, RV.last 16 (gs_ v st j ++ [(v + (j : Int) * st, (j : Int))]))] := K3
      have HG : Hid (RV.last 16 (gs_ v st j ++ [(v + (j : Int) * st, (j : Int))]) = gs_ v st (j + 1)) := Lib.hid (gl_snoc (fun i => v + (i : Int) * st) (fun i => (i : Int)) j)
      rw [HG.out] at K4
      have F4 := Fj.step F3 HUP.out
      clear K3 F3 Kj Fj
      have HK4 := Lib.hid K4
      have HF4 := Lib.hid F4
      clear K4 F4
      go_wp2
      go_roundw
      case rel => exact ⟨j + 1, (j : Int), by go_num, by omega, HK4.out, HF4.out⟩
      case measure => simp [intOf]; omega
    · obtain rfl : j = k := by omega
      have h3 : ¬ (j : Int) < (j : Int) := by omega
      obtain ⟨w, hw⟩ : ∃ w : Nat, (w : Int) = if (j : Int) - 1 < sp % 30 then (j : Int) - 1 else sp % 30 := ⟨(if (j : Int) - 1 < sp % 30 then (j : Int) - 1 else sp % 30).toNat, by split <;> omega⟩
      have HC := Lib.hid (still_ch (v := v) (st := st) hk1 hk15 hp0.1 hp0.2 hw)
      have HSm := Lib.hid (still_small hk15 HV.out HST.out)
      have hw15 : w ≤ 15 := by split at hw <;> omega
      have hpr := prod_in hw15 HST.out
      have HB1 : Hid (BigI ((j : Int) - 1)) := Lib.hid (by unfold BigI; omega)
      have HB2 : Hid (BigI (sp % 30)) := Lib.hid (by unfold BigI; omega)
      have HKx := Lib.hid Kj
      have HFx := Lib.hid Fj
      have hj1 : 1 ≤ (j : Int) := by omega
      clear Kj Fj hlt
      by_cases hc : (j : Int) - 1 < sp % 30
      · rw [if_pos hc] at hw
        rw [hw] at hpr
        have HW := Lib.hid hw
        clear hw
        go_wp2_with fail
        refine (change_x HKx.out (x := 0) (i := 0) rfl HI.out ((j:Int)-1) (sp % 30) HB1.out HB2.out HSm.out HC.out).mono ?_
        rintro e w4 ⟨rfl, F4⟩
        rw [HW.out]
        have HF := Lib.hid (HFx.out.step F4 nop)
        clear F4
        go_wp2
        go_ret
        exact ⟨rfl, HF.out.below⟩
      · rw [if_neg hc] at hw
        rw [hw] at hpr
        have HW := Lib.hid hw
        clear hw
        go_wp2_with fail
        refine (change_x HKx.out (x := 0) (i := 0) rfl HI.out ((j:Int)-1) (sp % 30) HB1.out HB2.out HSm.out HC.out).mono ?_
        rintro e w4 ⟨rfl, F4⟩
        rw [HW.out]
        have HF := Lib.hid (HFx.out.step F4 nop)
        clear F4
        go_wp2
        go_ret
        exact ⟨rfl, HF.out.below⟩

end Go.Proofs.Ytgknbhjhkdohkaa
