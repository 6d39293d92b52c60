/- CKp. -/
import Derived.Test.YtiahnklhgooigaaChecked
import Derived.WalkKit
import Derived.Laws.IdiomCopy
import Derived.Deep.QuietTactic
import Derived.BigQuiet
import Derived.Lib.Hide
import Derived.OpenShut
import Derived.StillTailTactics
import Derived.Deep.RegionWith
import Derived.Deep.RegionLaw
import Derived.Deep.Slices
import Derived.Deep.RegionHeld3
import Derived.OwnWalk
import Derived.Test.YtiahnklhgooigaaBase
import Derived.Test.YtiahnklhgooigaaCalm
import Derived.Test.YtiahnklhgooigaaCalmT
import Derived.Test.YtiahnklhgooigaaCel
import Derived.Test.YtiahnklhgooigaaApp
import Derived.Test.YtiahnklhgooigaaClk
import Derived.Test.YtiahnklhgooigaaRV
import Derived.Test.YtiahnklhgooigaaRVB
import Derived.Test.YtiahnklhgooigaaRVC
import Derived.Test.YtiahnklhgooigaaRVA
import Derived.Test.YtiahnklhgooigaaCeS
import Derived.Test.YtiahnklhgooigaaCeF
import Derived.Test.YtiahnklhgooigaaCeG
import Derived.Test.YtiahnklhgooigaaCeN
import Derived.Test.YtiahnklhgooigaaCeX
import Derived.Test.YtiahnklhgooigaaCeL
import Derived.Test.YtiahnklhgooigaaClkR
import Derived.Test.YtiahnklhgooigaaCLa
namespace Go.Proofs.Ytiahnklhgooigaa
open Go.RowKit
set_option linter.unusedVariables false
set_option linter.unusedSimpArgs false

/-! ### CellKeeps -/
def KpRel (W : World) (s g : Nat) (sh : List (Nat × Nat)) (f : Int) (k : Nat) (i : Value) (wr : World) : Prop :=
  ∃ (j : Nat) (t : Int), i = .int .i64 j ∧ j ≤ k ∧ St wr s g sh [dz, (t, false, gl (fun i => f + (i : Int)) (fun i => (i : Int)) j)] ∧ Fr (fun _ => False) W wr
set_option maxRecDepth 100000 in
set_option maxHeartbeats 3200000 in
theorem CellKeeps_walk (n f : Int) (W : World) (w0 : (Lit.int .u8 n).wf = true) (w1 : (Lit.int .i32 f).wf = true) :
    Calls Try.prog 5 #[.int .u8 n, .int .i32 f] W fun e w' => e = .returned (.bool true) ∧ Below W.heap.size W w' := by
  have hn := bounds_u8 w0
  have hf := bounds_i32 w1
  clear w0 w1
  obtain ⟨k, hk⟩ : ∃ k : Nat, n % 50 = (k : Int) := ⟨(n % 50).toNat, by omega⟩
  have hk50 : k < 50 := by omega
  have HK := Lib.hid hk
  clear hk
  go_enter Try.func5, Try.ntmps5
  go_wp2_with fail
  refine (keeps_any _).mono ?_
  rintro e w1 ⟨rfl, F1⟩
  go_wp2_with fail
  refine (store_new _ 2).mono ?_
  rintro e w2 ⟨s, g, sh, rfl, hsl, K2, F2, hup0⟩
  rw [show nsig 2 = 2 from by decide] at hsl K2
  have hup : ∀ i, inSt s g sh i → W.heap.size ≤ i := fun i hi => Nat.le_trans F1.size (hup0 i hi)
  have HUP := Lib.hid hup
  have HSL := Lib.hid hsl
  have FW := F1.step F2 nop
  clear hup hup0 hsl F1 F2
  have HK2 := Lib.hid K2
  have HFW := Lib.hid FW
  clear K2 FW
  go_wp2_with fail
  rw [HK.out]
  go_loopw [7] (fun i wr => KpRel W s g sh f k i wr) (fun i _ => k - (intOf i).toNat)
  case atStart => exact ⟨0, 0, rfl, Nat.zero_le _, HK2.out, HFW.out⟩
  case round =>
    clear HK2 HFW
    obtain ⟨j, t, rfl, hj, Kj, Fj⟩ := hrel
    by_cases hlt : j < k
    · have hlt' : (j : Int) < (k : Int) := by omega
      go_wp2_with fail
      refine (put_x Kj (x := 1) (i := 1) rfl (by have := HSL.out; omega) (j : Int) 0 (f + (j : Int)) false).mono ?_
      rintro e w3 ⟨rfl, K3, F3⟩
      have K4 : St w3 s g sh [dz, ((j : Int), false, RV.last 16 (gl (fun i => f + (i : Int)) (fun i => (i : Int)) j ++ [(f + (j : Int), (j : Int))]))] := K3
      rw [gl_snoc (fun i => f + (i : Int)) (fun i => (i : Int)) j] at K4
      have F4 := Fj.step F3 HUP.out
      clear K3 F3 Kj Fj
      have HK4 := Lib.hid K4
      have HF4 := Lib.hid F4
      clear K4 F4
      go_wp2
      go_roundw
      case rel => exact ⟨j + 1, (j : Int), by go_num, by omega, HK4.out, HF4.out⟩
      case measure => simp [intOf]; omega
    · obtain rfl : j = k := by omega
      have h3 : ¬ (j : Int) < (j : Int) := by omega
      have hod := gl_od (fun i => f + (i : Int)) (fun i => (i : Int)) j 0
      have hol : Hid (∃ r : Int × Bool, od 0 (gl (fun i => f + (i : Int)) (fun i => (i : Int)) j) = r ∧ (j = 0 ∧ r = (0, false) ∨ 0 < j ∧ r = (f + ((j - 16 : Nat) : Int), true))) := Lib.hid (by
        rcases hod with ⟨q, h1, h2, h4, h5, h6⟩ | ⟨h1, h2⟩
        · refine ⟨_, h4, .inr ⟨by omega, ?_⟩⟩
          have : q = j - 16 := by
            by_cases e : q = j - 16
            · exact e
            · have := h6 (j - 16) (Nat.le_refl _) (by omega); omega
          rw [this]
        · refine ⟨_, h1, .inl ⟨?_, rfl⟩⟩
          by_cases e : j = 0
          · exact e
          · have := h2 (j - 1) (by omega) (by omega); omega)
      have hlen := gl_len (fun i => f + (i : Int)) (fun i => (i : Int)) j
      obtain ⟨r, hr, hcase⟩ := hol.out
      have HR := Lib.hid hr
      have HLN := Lib.hid hlen
      clear hod hol hr hlen hlt
      have HKx := Lib.hid Kj
      have HFx := Lib.hid Fj
      clear Kj Fj
      by_cases h16 : (16 : Int) < (j : Int)
      · obtain rfl : r = (f + ((j - 16 : Nat) : Int), true) := by rcases hcase with ⟨h, _⟩ | ⟨_, h⟩; omega; exact h
        have hc : ((j - 16 : Nat) : Int) = (j : Int) - 16 := by omega
        have HCC := Lib.hid hc
        have hj0 : 0 < (j : Int) := by omega
        clear hcase hc
        go_wp2_with fail
        refine (oldest_x HKx.out (x := 1) (i := 1) rfl (by have := HSL.out; omega) 0 HR.out).mono ?_
        rintro e w4 ⟨rfl, F4⟩
        rw [HCC.out]
        have K4 := HKx.out.calm F4
        have FW4 := HFx.out.step F4 nop
        clear F4
        go_wp2_with fail
        refine (kept_x K4 (x := 1) (i := 1) rfl (by have := HSL.out; omega) (r := 16) (by show (((gl (fun i => f + (i : Int)) (fun i => (i : Int)) j).length : Nat) : Int) = 16; rw [HLN.out]; omega)).mono ?_
        rintro e w5 ⟨rfl, F5⟩
        have K5 := K4.calm F5
        have FW5 := FW4.step F5 nop
        clear K4 F5 FW4
        have e1 : ((16 : Int) == (j : Int) - ((j : Int) - 16)) = true := by simp; omega
        have e2 : (j : Int) - ((j : Int) - 16) = 16 := by omega
        go_wp2_with fail
        refine (kept_x K5 (x := 0) (i := 0) rfl (by have := HSL.out; omega) (r := 0) rfl).mono ?_
        rintro e w6 ⟨rfl, F6⟩
        have HF := Lib.hid (FW5.step F6 nop)
        clear K5 F6 FW5
        go_wp2
        go_ret
        exact ⟨rfl, HF.out.below⟩
      · have hj16 : j ≤ 16 := by omega
        have hc : ((j - 16 : Nat) : Int) = 0 := by omega
        have HCC := Lib.hid hc
        clear hc
        have e1 : ((j : Int) == (j : Int) - 0) = true := by simp
        rcases hcase with ⟨rfl, rfl⟩ | ⟨h0, rfl⟩
        · go_wp2_with fail
          refine (oldest_x HKx.out (x := 1) (i := 1) rfl (by have := HSL.out; omega) 0 HR.out).mono ?_
          rintro e w4 ⟨rfl, F4⟩
          have K4 := HKx.out.calm F4
          have FW4 := HFx.out.step F4 nop
          clear F4
          go_wp2_with fail
          refine (kept_x K4 (x := 1) (i := 1) rfl (by have := HSL.out; omega) (r := 0) rfl).mono ?_
          rintro e w5 ⟨rfl, F5⟩
          have K5 := K4.calm F5
          have FW5 := FW4.step F5 nop
          clear K4 F5 FW4
          go_wp2_with fail
          refine (kept_x K5 (x := 0) (i := 0) rfl (by have := HSL.out; omega) (r := 0) rfl).mono ?_
          rintro e w6 ⟨rfl, F6⟩
          have HF := Lib.hid (FW5.step F6 nop)
          clear K5 F6 FW5
          go_wp2
          go_ret
          exact ⟨rfl, HF.out.below⟩
        · have hj0 : 0 < (j : Int) := by omega
          go_wp2_with fail
          refine (oldest_x HKx.out (x := 1) (i := 1) rfl (by have := HSL.out; omega) 0 HR.out).mono ?_
          rintro e w4 ⟨rfl, F4⟩
          rw [HCC.out, Int.add_zero]
          have K4 := HKx.out.calm F4
          have FW4 := HFx.out.step F4 nop
          clear F4
          go_wp2_with fail
          refine (kept_x K4 (x := 1) (i := 1) rfl (by have := HSL.out; omega) (r := (j : Int)) (by show (((gl (fun i => f + (i : Int)) (fun i => (i : Int)) j).length : Nat) : Int) = (j : Int); rw [HLN.out]; omega)).mono ?_
          rintro e w5 ⟨rfl, F5⟩
          have K5 := K4.calm F5
          have FW5 := FW4.step F5 nop
          clear K4 F5 FW4
          go_wp2_with fail
          refine (kept_x K5 (x := 0) (i := 0) rfl (by have := HSL.out; omega) (r := 0) rfl).mono ?_
          rintro e w6 ⟨rfl, F6⟩
          have HF := Lib.hid (FW5.step F6 nop)
          clear K5 F6 FW5
          go_wp2
          go_ret
          exact ⟨rfl, HF.out.below⟩

end Go.Proofs.Ytiahnklhgooigaa
