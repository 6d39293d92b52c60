/- The walk of GateSwings. -/
import Derived.Test.YtbnbiffdamogfaaChecked
import Derived.WalkKit
import Derived.Laws.IdiomCopy
import Derived.Deep.QuietTactic
import Derived.BigQuiet
import Derived.Lib.Hide
import Derived.OpenShut
import Derived.StillTailTactics
import Derived.Deep.RegionWith
import Derived.Test.YtbnbiffdamogfaaBase
import Derived.Test.YtbnbiffdamogfaaClk
import Derived.Test.YtbnbiffdamogfaaClkR
import Derived.Test.YtbnbiffdamogfaaGt
import Derived.Test.YtbnbiffdamogfaaGtR
import Derived.Test.YtbnbiffdamogfaaGtL
import Derived.Test.YtbnbiffdamogfaaGPlays
namespace Go.Proofs.Ytbnbiffdamogfaa
open Go.RowKit
set_option linter.unusedVariables false
set_option linter.unusedSimpArgs false

/-! ### gate.Cross and GateSwings -/
def ruleCells (k : Int) (l b : Int) : Array Value := #[.int .u8 k, .int .i64 0, .int .i64 l, .int .i64 b, .int .i64 0, .int .i64 0, .int .u8 0, .bool false, .slice none 0 0]
def CrossPost (w : World) (l b v : Int) (e : Ending) (w' : World) : Prop := e = .returned (.tuple #[.bool (decide (l < v)), .bool (decide (v ≤ b))]) ∧ Fr (fun _ => False) w w'
set_option maxHeartbeats 1600000 in
theorem cross_above (w : World) (l b v : Int) :
    Calls Try.prog 31 #[.agg #[.int .u8 1, .int .i64 0, .int .i64 l, .int .i64 b, .int .i64 0, .int .i64 0, .int .u8 0, .bool false, .slice none 0 0], .int .i64 v] w (CrossPost w l b v) := by
  go_enter Try.func31, Try.ntmps31
  have B := alloc_is (w := w) (n := w.heap.size) (.cells #[.int .u8 1, .int .i64 0, .int .i64 l, .int .i64 b, .int .i64 0, .int .i64 0, .int .u8 0, .bool false, .slice none 0 0] 62) rfl
  have c0 := cell_of B 0
  have c2 := cell_of B 2
  have c3 := cell_of B 3
  simp only [List.getElem?_toArray, List.getElem?_cons_zero, List.getElem?_cons_succ] at c0 c2 c3
  clear B
  go_wp2_with fail
  go_quiet (fail)
  go_wp2
  go_ret2
  exact ⟨rfl, ((Fr.refl _ w).alloc _).drewN _⟩
def EU8 : El Int := ⟨fun x => [.int .u8 x], 1, fun _ => rfl, by omega, 0⟩
theorem Reads.u8 {w : World} {b o n : Nat} {xs : List Int} (h : Reads EU8 w (some ⟨b, o, none⟩) n xs) {k : Nat} (hk : k < n) :
    w.cell? ⟨b, o + k, none⟩ = some (.int .u8 (xs.getD k 0)) := by
  have := h.cellj (j := 0) hk (by decide)
  simpa [EU8] using this
theorem tmod_in {x y : Int} (hx : 0 ≤ x) (hy : 0 < y) : 0 ≤ x.tmod y ∧ x.tmod y < y := by
  rw [Int.tmod_eq_emod_of_nonneg hx]
  exact ⟨Int.emod_nonneg _ (by omega), Int.emod_lt_of_pos _ hy⟩
theorem gs_stay (on : Bool) (now : Int) : gs (on, false, 0) now false false 0 = (on, false, 0) := by cases on <;> simp [gs]
def SwingRel (W : World) (rb gb : Nat) (l b : Int) (on : Bool) (i : Value) (wr : World) : Prop :=
  ∃ k : Nat, i = .int .i64 k ∧ k ≤ 60 ∧ wr.heap[rb]? = some (.cells #[.int .u8 1, .int .i64 0, .int .i64 l, .int .i64 b, .int .i64 0, .int .i64 0, .int .u8 0, .bool false, .slice none 0 0] 62 (0, 0)) ∧
    wr.heap[gb]? = some (.cells #[.bool on, .bool false, .int .i64 0] 25 (0, 0)) ∧ Fr (fun _ => False) W wr
theorem cells9 {w : World} {b : Nat} {x0 x1 x2 x3 x4 x5 x6 x7 x8 : Value} {t : TypeId} (h : w.heap[b]? = some (.cells #[x0, x1, x2, x3, x4, x5, x6, x7, x8] t (0, 0))) : w.cell? ⟨b, 0, none⟩ = some x0 ∧ w.cell? ⟨b, 1, none⟩ = some x1 ∧ w.cell? ⟨b, 2, none⟩ = some x2 ∧ w.cell? ⟨b, 3, none⟩ = some x3 ∧ w.cell? ⟨b, 4, none⟩ = some x4 ∧ w.cell? ⟨b, 5, none⟩ = some x5 ∧ w.cell? ⟨b, 6, none⟩ = some x6 ∧ w.cell? ⟨b, 7, none⟩ = some x7 ∧ w.cell? ⟨b, 8, none⟩ = some x8 := by
  refine ⟨?_, ?_, ?_, ?_, ?_, ?_, ?_, ?_, ?_⟩ <;> (rw [cell_of h]; rfl)
set_option maxRecDepth 100000 in
set_option maxHeartbeats 1000000 in
theorem GateSwings_walk (a0 a1 : Int) (A : Option Addr) (n cap : Nat) (zs : List Int) (a3 : Bool) (W : World) (w0 : (Lit.int .i16 a0).wf = true) (w1 : (Lit.int .u8 a1).wf = true) (hr : Reads EU8 W A n zs) (hw : ∀ y, y ∈ zs → (Lit.int .u8 y).wf = true) (hcap : n ≤ cap ∧ cap ≤ maxLen) :
    Calls Try.prog 15 #[.int .i16 a0, .int .u8 a1, .slice A n cap, .bool a3] W fun e w' => e = .returned (.bool true) ∧ Below W.heap.size W w' := by
  have b0 := bounds_i16 w0
  have b1 := bounds_u8 w1
  have HL := Lib.hid hr.1
  have HW := Lib.hid hw
  clear w0 w1 hcap hw
  by_cases hn : n ≤ 60
  · have e0 : ¬ (60 : Int) < (n : Int) := by omega
    go_enter Try.func15, Try.ntmps15
    go_wp2_with fail
    refine (lasts_any _).mono ?_
    rintro e w1 ⟨rfl, F1⟩
    go_wp2_with fail
    obtain ⟨bk, hbk⟩ : ∃ bk, bk = a0 - a1 - 1 := ⟨_, rfl⟩
    rw [← hbk]
    have hb3 : -40000 ≤ bk ∧ bk ≤ 40000 := by omega
    have HBK := Lib.hid hbk
    clear hbk
    obtain ⟨w2, hw2⟩ : ∃ w2, w2 = (w1.alloc (.cells #[.int .u8 1, .int .i64 0, .int .i64 a0, .int .i64 bk, .int .i64 0, .int .i64 0, .int .u8 0, .bool false, .slice none 0 0] 62)).alloc (.cells #[.bool a3, .bool false, .int .i64 0] 25) := ⟨_, rfl⟩
    have A1 : w2.heap[w1.heap.size]? = some (.cells #[.int .u8 1, .int .i64 0, .int .i64 a0, .int .i64 bk, .int .i64 0, .int .i64 0, .int .u8 0, .bool false, .slice none 0 0] 62 (0, 0)) := by rw [hw2]; exact alloc_at (alloc_is _ rfl) _
    have A2 : w2.heap[w1.heap.size + 1]? = some (.cells #[.bool a3, .bool false, .int .i64 0] 25 (0, 0)) := by rw [hw2]; exact alloc_is _ (by simp)
    have F2 : Fr (fun _ => False) W w2 := by rw [hw2]; exact (F1.alloc _).alloc _
    rw [← hw2]
    have hrb : W.heap.size ≤ w1.heap.size := F1.size
    clear hw2
    obtain ⟨gb, hgb⟩ : ∃ gb, gb = w1.heap.size + 1 := ⟨_, rfl⟩
    rw [← hgb] at A2 ⊢
    have hne : w1.heap.size ≠ gb := by omega
    have hgb' : W.heap.size ≤ gb := by omega
    clear hgb
    generalize w1.heap.size = rb at A1 hrb hne ⊢
    clear F1
    go_loopw [11] (fun i wr => SwingRel W rb gb a0 bk a3 i wr) (fun i _ => n - (intOf i).toNat)
    case atStart => exact ⟨0, rfl, by omega, A1, A2, F2⟩
    case round =>
      clear A1 A2 F2
      obtain ⟨k, rfl, hk, hB, hC, Fk⟩ := hrel
      by_cases hlt : k < n
      · obtain ⟨b, o, rfl, hbw⟩ := hr.plain (by omega)
        have l0 := (hr.fr Fk (fun _ _ x => x)).u8 hlt
        have hl := bounds_u8 (HW.out (zs.getD k 0) (by have := HL.out; simp [List.getD_eq_getElem?_getD, show k < zs.length by omega]))
        generalize zs.getD k 0 = x at l0 hl
        have hlt' : (k : Int) < (n : Int) := by omega
        have hbt : BigI (k : Int) := big_small (by omega)
        have hm : 0 ≤ x % (a1 + 1) ∧ x % (a1 + 1) < a1 + 1 := ⟨Int.emod_nonneg _ (by omega), Int.emod_lt_of_pos _ (by omega)⟩
        have hz : ¬ (a1 + 1 = 0) := by omega
        obtain ⟨r0, r1, r2, r3, r4, r5, r6, r7, r8⟩ := cells9 hB
        go_wp2_with fail
        go_quiet (fail)
        generalize hv : bk + 1 + x % (a1 + 1) = v
        have hv1 : ¬ a0 < v := by have := HBK.out; omega
        have hv2 : ¬ v ≤ bk := by omega
        have e3 : decide (a0 < v) = false := decide_eq_false hv1
        have e4 : decide (v ≤ bk) = false := decide_eq_false hv2
        have HV := Lib.hid hv
        clear hv hv1 hv2 r0 r1 r2 r3 r4 r5 r6 r7 r8 l0
        have hB' : (wr.drewN nq).heap[rb]? = _ := hB
        have hC' : (wr.drewN nq).heap[gb]? = _ := hC
        have F3 := Fk.drewN nq
        clear hB hC Fk
        generalize wr.drewN nq = w3 at hB' hC' F3 ⊢
        obtain ⟨r0, r1, r2, r3, r4, r5, r6, r7, r8⟩ := cells9 hB'
        go_wp2_with fail
        refine (cross_above _ _ _ _).mono ?_
        rintro e w4 ⟨rfl, F4⟩
        rw [e3, e4]
        have hB4 := F4.at_ hB' (fun x => x)
        have hC4 := F4.at_ hC' (fun x => x)
        have F5 := F3.step F4 nop
        obtain ⟨c0, c1, c2⟩ := cells3 hC4
        clear hB' hC' F3 F4 r0 r1 r2 r3 r4 r5 r6 r7 r8
        go_wp2_with fail
        refine (step_any w4 a3 false 0 k false false 0 (show BigI 0 from by unfold BigI; omega) hbt).mono ?_
        rintro e w5 ⟨rfl, F6⟩
        rw [gs_stay]
        simp only [gv]
        have hB5 := F6.at_ hB4 (fun x => x)
        have hC5 := F6.at_ hC4 (fun x => x)
        have F7 := (F5.step F6 nop).put3 (b := gb) (fun h => by omega) (.bool a3) (.bool false) (.int .i64 0)
        have z0 := frozen_of hC5 0
        have z1 := frozen_of hC5 1
        have z2 := frozen_of hC5 2
        have C8 := put3 (x' := .bool a3) (y' := .bool false) (z' := .int .i64 0) hC5
        obtain ⟨d0, d1, d2⟩ := cells3 hC5
        have B8 := set_far (set_far (set_far hB5 hne (p := ⟨gb, 0, none⟩) (.bool a3)) hne (p := ⟨gb, 1, none⟩) (.bool false)) hne (p := ⟨gb, 2, none⟩) (.int .i64 0)
        obtain ⟨f0, f1, f2⟩ := cells3 C8
        have HB8 := Lib.hid B8
        have HC8 := Lib.hid C8
        have HF8 := Lib.hid F7
        have t1 : (a3 != a3) = false := by simp
        clear hB4 hC4 F5 F6 hB5 hC5 F7 C8 B8 c0 c1 c2
        go_wp2
        go_roundw
        case rel => exact ⟨k + 1, rfl, by omega, HB8.out, HC8.out, HF8.out⟩
        case measure => simp [intOf]; omega
      · have F5 := Fk.below
        have hlt' : ¬ (k : Int) < (n : Int) := by omega
        have HF := Lib.hid F5
        clear F5 Fk hB hC
        go_wp2
        go_ret
        exact ⟨rfl, HF.out⟩
  · have e0 : (60 : Int) < (n : Int) := by omega
    go_enter Try.func15, Try.ntmps15
    go_wp2_with fail
    refine (lasts_any _).mono ?_
    rintro e w1 ⟨rfl, F1⟩
    go_wp2_with fail
    refine (lasts_any _).mono ?_
    rintro e w2 ⟨rfl, F2⟩
    have HF := Lib.hid (F1.step F2 nop).below
    go_wp2
    go_ret
    exact ⟨rfl, HF.out⟩

end Go.Proofs.Ytbnbiffdamogfaa
