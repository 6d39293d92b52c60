/- CFm. -/
import Derived.Test.YtiahnklhgooigaaChecked
import Derived.WalkKit
import Derived.Laws.IdiomCopy
import Derived.Deep.QuietTactic
import Derived.BigQuiet
import Derived.Lib.Hide
import Derived.OpenShut
import Derived.StillTailTactics
import Derived.Deep.RegionWith
import Derived.Deep.RegionLaw
import Derived.Deep.Slices
import Derived.Deep.RegionHeld3
import Derived.OwnWalk
import Derived.Test.YtiahnklhgooigaaBase
import Derived.Test.YtiahnklhgooigaaCalm
import Derived.Test.YtiahnklhgooigaaCalmT
import Derived.Test.YtiahnklhgooigaaCel
import Derived.Test.YtiahnklhgooigaaApp
import Derived.Test.YtiahnklhgooigaaClk
import Derived.Test.YtiahnklhgooigaaRV
import Derived.Test.YtiahnklhgooigaaRVB
import Derived.Test.YtiahnklhgooigaaRVC
import Derived.Test.YtiahnklhgooigaaRVA
import Derived.Test.YtiahnklhgooigaaCeS
import Derived.Test.YtiahnklhgooigaaCeF
import Derived.Test.YtiahnklhgooigaaCeG
import Derived.Test.YtiahnklhgooigaaCeN
import Derived.Test.YtiahnklhgooigaaCeX
import Derived.Test.YtiahnklhgooigaaCeL
import Derived.Test.YtiahnklhgooigaaClkR
import Derived.Test.YtiahnklhgooigaaCLa
namespace Go.Proofs.Ytiahnklhgooigaa
open Go.RowKit
set_option linter.unusedVariables false
set_option linter.unusedSimpArgs false

/-! ### CellFrom -/
def gf (k : Nat) : List (Int × Int) := gl (fun i => (i : Int)) (fun i => 2 * (i : Int)) k
def FmRel (W : World) (s g : Nat) (sh : List (Nat × Nat)) (k : Nat) (i : Value) (wr : World) : Prop :=
  ∃ (j : Nat) (t : Int), i = .int .i64 j ∧ j ≤ k ∧ St wr s g sh [(t, false, gf j)] ∧ Fr (fun _ => False) W wr
theorem from_last {k : Nat} (h : 0 < k) : od (2 * ((k : Int) - 1)) (gf k) = ((k : Int) - 1, true) := by
  rcases gl_od (fun i => (i : Int)) (fun i => 2 * (i : Int)) k (2 * ((k : Int) - 1)) with ⟨j, h1, h2, h3, h4, h5⟩ | ⟨h1, h2⟩
  · unfold gf; rw [h3]
    have : (j : Int) = (k : Int) - 1 := by (try simp only at h4); omega
    rw [this]
  · have := h2 (k - 1) (by omega) (by omega)
    (try simp only at this); omega
theorem from_two {k : Nat} (h : 0 < k) {a b : Int} (hab : a ≤ b) : ∃ x y oa ob, od a (gf k) = (x, oa) ∧ od b (gf k) = (y, ob) ∧ (oa = true ∧ ob = true ∧ x ≤ y ∧ a ≤ 2 * ((k : Int) - 1) ∨ oa = true ∧ ob = false ∧ a ≤ 2 * ((k : Int) - 1) ∨ oa = false ∧ ob = false ∧ ¬ a ≤ 2 * ((k : Int) - 1)) := by
  rcases gl_od (fun i => (i : Int)) (fun i => 2 * (i : Int)) k a with ⟨j, h1, h2, h3, h4, h5⟩ | ⟨h1, h2⟩
  · rcases gl_od (fun i => (i : Int)) (fun i => 2 * (i : Int)) k b with ⟨q, g1, g2, g3, g4, g5⟩ | ⟨g1, g2⟩
    · refine ⟨_, _, _, _, h3, g3, .inl ⟨rfl, rfl, ?_, ?_⟩⟩
      · by_cases e : (j : Int) ≤ (q : Int)
        · exact e
        · have := h5 q g1 (by omega); (try simp only at this g4); omega
      · (try simp only at h4); omega
    · refine ⟨_, _, _, _, h3, g1, .inr (.inl ⟨rfl, rfl, ?_⟩)⟩
      (try simp only at h4); omega
  · rcases gl_od (fun i => (i : Int)) (fun i => 2 * (i : Int)) k b with ⟨q, g1, g2, g3, g4, g5⟩ | ⟨g1, g2⟩
    · have := h2 q g1 g2; (try simp only at this g4); omega
    · refine ⟨_, _, _, _, h1, g1, .inr (.inr ⟨rfl, rfl, ?_⟩)⟩
      have := h2 (k - 1) (by omega) (by omega); (try simp only at this); omega
set_option maxRecDepth 100000 in
set_option maxHeartbeats 3200000 in
theorem CellFrom_walk (n a b : Int) (W : World) (w0 : (Lit.int .u8 n).wf = true) (w1 : (Lit.int .u8 a).wf = true) (w2 : (Lit.int .u8 b).wf = true) :
    Calls Try.prog 3 #[.int .u8 n, .int .u8 a, .int .u8 b] W fun e w' => e = .returned (.bool true) ∧ Below W.heap.size W w' := by
  have hn := bounds_u8 w0
  have ha := bounds_u8 w1
  have hb := bounds_u8 w2
  clear w0 w1 w2
  obtain ⟨k, hk⟩ : ∃ k : Nat, 1 + n % 40 = (k : Int) := ⟨(1 + n % 40).toNat, by omega⟩
  have hk40 : k ≤ 40 := by omega
  have hk1 : 0 < k := by omega
  have HK := Lib.hid hk
  clear hk
  go_enter Try.func3, Try.ntmps3
  go_wp2_with fail
  refine (keeps_any _).mono ?_
  rintro e w1 ⟨rfl, F1⟩
  go_wp2_with fail
  refine (store_new _ 1).mono ?_
  rintro e w2 ⟨s, g, sh, rfl, hsl, K2, F2, hup0⟩
  rw [show nsig 1 = 1 from by decide] at hsl K2
  have hup : ∀ i, inSt s g sh i → W.heap.size ≤ i := fun i hi => Nat.le_trans F1.size (hup0 i hi)
  have HUP := Lib.hid hup
  have HSL := Lib.hid hsl
  have FW := F1.step F2 nop
  clear hup hup0 hsl F1 F2
  have HK2 := Lib.hid K2
  have HFW := Lib.hid FW
  clear K2 FW
  go_wp2_with fail
  rw [HK.out]
  go_loopw [9] (fun i wr => FmRel W s g sh k i wr) (fun i _ => k - (intOf i).toNat)
  case atStart => exact ⟨0, 0, rfl, Nat.zero_le _, HK2.out, HFW.out⟩
  case round =>
    clear HK2 HFW
    obtain ⟨j, t, rfl, hj, Kj, Fj⟩ := hrel
    by_cases hlt : j < k
    · have hlt' : (j : Int) < (k : Int) := by omega
      go_wp2_with fail
      refine (put_x Kj (x := 0) (i := 0) rfl (by have := HSL.out; omega) (2 * (j : Int)) 0 (j : Int) false).mono ?_
      rintro e w3 ⟨rfl, K3, F3⟩
      have K4 : St w3 s g sh [(2 * (j : Int), false, RV.last 16 (gf j ++ [((j : Int), 2 * (j : Int))]))] := K3
      have HG : Hid (RV.last 16 (gf j ++ [((j : Int), 2 * (j : Int))]) = gf (j + 1)) := Lib.hid (gl_snoc (fun i => (i : Int)) (fun i => 2 * (i : Int)) j)
      rw [HG.out] at K4
      have F4 := Fj.step F3 HUP.out
      clear K3 F3 Kj Fj
      have HK4 := Lib.hid K4
      have HF4 := Lib.hid F4
      clear K4 F4
      go_wp2
      go_roundw
      case rel => exact ⟨j + 1, 2 * (j : Int), by go_num, by omega, HK4.out, HF4.out⟩
      case measure => simp [intOf]; omega
    · obtain rfl : j = k := by omega
      have h3 : ¬ (j : Int) < (j : Int) := by omega
      have HV : Hid (vl (gf j) = ((j : Int) - 1, 2 * ((j : Int) - 1), true)) := Lib.hid (by unfold gf; rw [gl_vl _ _ hk1]; rw [show ((j - 1 : Nat) : Int) = (j : Int) - 1 from by omega])
      have HLa := Lib.hid (from_last hk1)
      have HKx := Lib.hid Kj
      have HFx := Lib.hid Fj
      clear Kj Fj hlt
      have HI : Hid (0 < sh.length) := Lib.hid (by have := HSL.out; omega)
      have hj0 : 1 ≤ (j : Int) := by omega
      obtain ⟨A, B, hAB, hcase⟩ : ∃ A B : Int, A ≤ B ∧ (b < a ∧ A = b ∧ B = a ∨ ¬ b < a ∧ A = a ∧ B = b) := by
        by_cases h : b < a
        · exact ⟨b, a, by omega, .inl ⟨h, rfl, rfl⟩⟩
        · exact ⟨a, b, by omega, .inr ⟨h, rfl, rfl⟩⟩
      obtain ⟨x, y, oa, ob, hoa, hob, hc⟩ := from_two hk1 hAB
      have HOA := Lib.hid hoa
      have HOB := Lib.hid hob
      clear hoa hob
      rcases hcase with ⟨hba, rfl, rfl⟩ | ⟨hba, rfl, rfl⟩
      all_goals
        rcases hc with ⟨rfl, rfl, hxy, hal⟩ | ⟨rfl, rfl, hal⟩ | ⟨rfl, rfl, hal⟩
        all_goals
          go_wp2_with fail
          refine (oldest_x HKx.out (x := 0) (i := 0) rfl HI.out _ HOA.out).mono ?_
          rintro e w4 ⟨rfl, F4⟩
          have K4 := HKx.out.calm F4
          have FW4 := HFx.out.step F4 nop
          clear F4
          go_wp2_with fail
          refine (oldest_x K4 (x := 0) (i := 0) rfl HI.out _ HOB.out).mono ?_
          rintro e w5 ⟨rfl, F5⟩
          have K5 := K4.calm F5
          have FW5 := FW4.step F5 nop
          clear K4 F5 FW4
          go_wp2_with fail
          refine (value_x K5 (x := 0) (i := 0) rfl HI.out HV.out).mono ?_
          rintro e w6 ⟨rfl, F6⟩
          have K6 := K5.calm F6
          have FW6 := FW5.step F6 nop
          clear K5 F6 FW5
          go_wp2_with fail
          refine (oldest_x K6 (x := 0) (i := 0) rfl HI.out _ HLa.out).mono ?_
          rintro e w7 ⟨rfl, F7⟩
          have HF := Lib.hid (FW6.step F7 nop)
          clear K6 F7 FW6
          first
            | (have t1 : decide (x ≤ y) = true := decide_eq_true hxy; have t2 := decide_eq_true hal; go_wp2; go_ret; exact ⟨rfl, HF.out.below⟩)
            | (have t2 := decide_eq_true hal; go_wp2; go_ret; exact ⟨rfl, HF.out.below⟩)
            | (have t2 : decide (A ≤ 2 * ((j : Int) - 1)) = false := decide_eq_false (by omega); go_wp2; go_ret; exact ⟨rfl, HF.out.below⟩)

end Go.Proofs.Ytiahnklhgooigaa
