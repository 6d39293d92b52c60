/- The walk of GateLonger. -/
import Derived.Test.YtbnbiffdamogfaaChecked
import Derived.WalkKit
import Derived.Laws.IdiomCopy
import Derived.Deep.QuietTactic
import Derived.BigQuiet
import Derived.Lib.Hide
import Derived.OpenShut
import Derived.StillTailTactics
import Derived.Deep.RegionWith
import Derived.Test.YtbnbiffdamogfaaBase
import Derived.Test.YtbnbiffdamogfaaClk
import Derived.Test.YtbnbiffdamogfaaClkR
import Derived.Test.YtbnbiffdamogfaaGt
import Derived.Test.YtbnbiffdamogfaaGtR
import Derived.Test.YtbnbiffdamogfaaGtL
import Derived.Test.YtbnbiffdamogfaaGPlays
namespace Go.Proofs.Ytbnbiffdamogfaa
open Go.RowKit
set_option linter.unusedVariables false
set_option linter.unusedSimpArgs false

/-! ### GateLonger -/
/-- How the gate that must wait less stands to the gate that must wait longer. -/
def Longer (g h : Bool × Bool × Int) : Prop := g = (true, false, 0) ∨ g = h ∧ g.1 = false
theorem longer_tick {g h : Bool × Bool × Int} {now d1 d2 : Int} {i : Bool} (hd : d1 ≤ d2) (hg : Longer g h) : Longer (gs g now i (!i) d1) (gs h now i (!i) d2) ∧ ((gs h now i (!i) d2).1 = true → (gs g now i (!i) d1).1 = true) := by
  obtain ⟨p, q, r⟩ := h
  rcases hg with rfl | ⟨rfl, h1⟩
  · cases i <;> cases p <;> simp [gs, Longer]
  · obtain rfl : p = false := h1
    cases i
    · simp [gs, Longer]
    · simp only [gs, Longer]
      generalize sn now (if q = true then r else now) = s
      generalize (if q = true then r else now) = s2
      by_cases c1 : d1 ≤ s
      · simp [c1]
      · have c2 : ¬ d2 ≤ s := by omega
        simp [c1, c2]
def LongRel (W : World) (gb mb : Nat) (i : Value) (wr : World) : Prop :=
  ∃ (k : Nat) (g h : Bool × Bool × Int), i = .int .i64 k ∧ k ≤ 60 ∧ Longer g h ∧ BigI g.2.2 ∧ BigI h.2.2 ∧ wr.heap[gb]? = some (.cells #[.bool g.1, .bool g.2.1, .int .i64 g.2.2] 25 (0, 0)) ∧
    wr.heap[mb]? = some (.cells #[.bool h.1, .bool h.2.1, .int .i64 h.2.2] 25 (0, 0)) ∧ Fr (fun _ => False) W wr

set_option maxRecDepth 100000 in
set_option maxHeartbeats 1000000 in
theorem GateLonger_walk (A : Option Addr) (n cap : Nat) (zs : List (Bool × Bool × Int)) (a1 a2 : Int) (W : World) (hr : Reads ELook W A n zs) (hw : ∀ y, y ∈ zs → True ∧ True ∧ (Lit.int .u8 y.2.2).wf = true) (hcap : n ≤ cap ∧ cap ≤ maxLen) (w1 : (Lit.int .u8 a1).wf = true) (w2 : (Lit.int .u8 a2).wf = true) :
    Calls Try.prog 6 #[.slice A n cap, .int .u8 a1, .int .u8 a2] W fun e w' => e = .returned (.bool true) ∧ Below W.heap.size W w' := by
  have b1 := bounds_u8 w1
  have b2 := bounds_u8 w2
  clear w1 w2 hcap
  by_cases hn : n ≤ 60
  · have e0 : ¬ (60 : Int) < (n : Int) := by omega
    have HL := Lib.hid hr.1
    by_cases hab : a2 < a1
    · have e1 : decide (a2 < a1) = true := decide_eq_true hab
      obtain ⟨d, hd⟩ : ∃ d, d = a2 % 20 := ⟨_, rfl⟩
      have hd9 : 0 ≤ d ∧ d ≤ 19 := by omega
      obtain ⟨d2, hd2⟩ : ∃ d2, d2 = d + (a1 - a2) := ⟨_, rfl⟩
      have hd3 : d ≤ d2 ∧ d2 ≤ 300 := by omega
      have E4 : IntKind.i64.wrap (a2.tmod 20) = d := by
        have h := IntWalk.wrap64_in (a2 % 20) (by omega); rw [Int.tmod_eq_emod_of_nonneg b2.1, hd]; exact (IntWalk.i64_left _).trans h
      have HE4 := Lib.hid E4
      have HD2 := Lib.hid hd2
      have HD3 := Lib.hid hd3
      clear E4 hd hd2 hd3
      go_enter Try.func6, Try.ntmps6
      go_wp2_with fail
      refine (lasts_any _).mono ?_
      rintro e w1 ⟨rfl, F1⟩
      go_wp2_with fail
      have A1 : ((w1.alloc (.cells #[.bool false, .bool false, .int .i64 0] 25)).alloc (.cells #[.bool false, .bool false, .int .i64 0] 25)).heap[w1.heap.size]? = some (.cells #[.bool false, .bool false, .int .i64 0] 25 (0, 0)) := alloc_at (alloc_is _ rfl) _
      have A2 : ((w1.alloc (.cells #[.bool false, .bool false, .int .i64 0] 25)).alloc (.cells #[.bool false, .bool false, .int .i64 0] 25)).heap[w1.heap.size + 1]? = some (.cells #[.bool false, .bool false, .int .i64 0] 25 (0, 0)) := alloc_is _ (by simp)
      have F2 := (F1.alloc (.cells #[.bool false, .bool false, .int .i64 0] 25)).alloc (.cells #[.bool false, .bool false, .int .i64 0] 25)
      have hgb : W.heap.size ≤ w1.heap.size := F1.size
      generalize (w1.alloc (.cells #[.bool false, .bool false, .int .i64 0] 25)).alloc (.cells #[.bool false, .bool false, .int .i64 0] 25) = w2 at A1 A2 F2 ⊢
      obtain ⟨mb, hmb⟩ : ∃ mb, mb = w1.heap.size + 1 := ⟨_, rfl⟩
      rw [← hmb] at A2 ⊢
      have hne : w1.heap.size ≠ mb := by omega
      have hmb' : W.heap.size ≤ mb := by omega
      clear hmb
      generalize w1.heap.size = gb at A1 hgb hne ⊢
      clear F1
      go_loopw [9] (fun i wr => LongRel W gb mb i wr) (fun i _ => n - (intOf i).toNat)
      case atStart => exact ⟨0, (false, false, 0), (false, false, 0), rfl, by omega, .inr ⟨rfl, rfl⟩, (show BigI 0 from by unfold BigI; omega), (show BigI 0 from by unfold BigI; omega), A1, A2, F2⟩
      case round =>
        clear A1 A2 F2
        obtain ⟨k, g, h, rfl, hk, hgh, hbg, hbh, hB, hC, Fk⟩ := hrel
        by_cases hlt : k < n
        · obtain ⟨b, o, rfl, hbw⟩ := hr.plain (by omega)
          obtain ⟨l0, -, -⟩ := (hr.fr Fk (fun _ _ x => x)).look hlt
          obtain ⟨x, hx⟩ : ∃ x, (zs.getD k ELook.z).1 = x := ⟨_, rfl⟩
          rw [hx] at l0
          have HX := Lib.hid hx
          clear hx
          have hlt' : (k : Int) < (n : Int) := by omega
          have hbt : BigI (k : Int) := big_small (by omega)
          obtain ⟨hgh2, hon⟩ := longer_tick (i := x) (now := (k : Int)) HD3.out.1 hgh
          obtain ⟨p, q, r⟩ := g
          obtain ⟨p2, q2, r2⟩ := h
          have HS := Lib.hid (step_any wr.drew p q r k x (!x) d hbg hbt)
          have HS2 := Lib.hid (fun w => step_any w p2 q2 r2 k x (!x) d2 hbh hbt)
          have hbg' := gs_big (g := (p, q, r)) (now := k) (i := x) (o := !x) (d := d) hbg hbt
          have hbh' := gs_big (g := (p2, q2, r2)) (now := k) (i := x) (o := !x) (d := d2) hbh hbt
          generalize gs (p, q, r) k x (!x) d = g' at HS hbg' hgh2 hon
          generalize gs (p2, q2, r2) k x (!x) d2 = h' at HS2 hbh' hgh2 hon
          obtain ⟨p', q', r'⟩ := g'
          obtain ⟨p2', q2', r2'⟩ := h'
          have HG2 := Lib.hid hgh2
          have HON := Lib.hid hon
          have HBG := Lib.hid hbg'
          have HBH := Lib.hid hbh'
          obtain ⟨c0, c1, c2⟩ := cells3 hB
          clear hgh2 hon hgh hbg' hbh' hbg hbh hbt
          go_wp2_with fail
          go_still_tail 16, (by kernel_rfl)
          change wpList _ _ _ _ _ wr.drew
          have B2 : wr.drew.heap[gb]? = some (.cells #[.bool p, .bool q, .int .i64 r] 25 (0, 0)) := hB
          have C2 : wr.drew.heap[mb]? = some (.cells #[.bool p2, .bool q2, .int .i64 r2] 25 (0, 0)) := hC
          have F2 : Fr (fun _ => False) W wr.drew := Fk.drewN 1
          try rw [HE4.out]
          clear hB hC Fk c0 c1 c2 l0
          generalize wr.drew = wd at B2 C2 F2 HS ⊢
          go_wp2_with fail
          refine HS.out.mono ?_
          rintro e w4 ⟨rfl, F4⟩
          simp only [gv]
          have B4 := F4.at_ B2 (fun x => x)
          have C4 := F4.at_ C2 (fun x => x)
          have F5 := (F2.step F4 nop).put3 (b := gb) (fun h => by omega) (.bool p') (.bool q') (.int .i64 r')
          have z0 := frozen_of B4 0
          have z1 := frozen_of B4 1
          have z2 := frozen_of B4 2
          have B5 := put3 (x' := .bool p') (y' := .bool q') (z' := .int .i64 r') B4
          obtain ⟨d0, d1, d2⟩ := cells3 B4
          generalize hw5 : ((w4.setCell ⟨gb, 0, none⟩ (.bool p')).setCell ⟨gb, 1, none⟩ (.bool q')).setCell ⟨gb, 2, none⟩ (.int .i64 r') = w5 at B5 F5
          have C5 : w5.heap[mb]? = some (.cells #[.bool p2, .bool q2, .int .i64 r2] 25 (0, 0)) := by
            rw [← hw5]; exact set_far (set_far (set_far C4 (Ne.symm hne) _) (Ne.symm hne) _) (Ne.symm hne) _
          obtain ⟨l0, -, -⟩ := (hr.fr F5 (fun _ _ x => x)).look hlt
          obtain ⟨m0, m1, m2⟩ := cells3 C5
          rw [HX.out] at l0
          go_wp2_with fail
          clear hw5 B4 C4 F4 d0 d1 d2 z0 z1 z2
          go_still_tail 21, (by kernel_rfl)
          change wpList _ _ _ _ _ w5.drew
          try rw [HE4.out]
          have B6 : w5.drew.heap[gb]? = some (.cells #[.bool p', .bool q', .int .i64 r'] 25 (0, 0)) := B5
          have C6 : w5.drew.heap[mb]? = some (.cells #[.bool p2, .bool q2, .int .i64 r2] 25 (0, 0)) := C5
          have F6 : Fr (fun _ => False) W w5.drew := F5.drewN 1
          clear B5 C5 F5 l0 m0 m1 m2
          generalize w5.drew = w6 at B6 C6 F6 ⊢
          go_wp2_with fail
          try rw [← HD2.out]
          refine (HS2.out w6).mono ?_
          rintro e w7 ⟨rfl, F7⟩
          simp only [gv]
          have B7 := F7.at_ B6 (fun x => x)
          have C7 := F7.at_ C6 (fun x => x)
          have F8 := (F6.step F7 nop).put3 (b := mb) (fun h => by omega) (.bool p2') (.bool q2') (.int .i64 r2')
          have z0 := frozen_of C7 0
          have z1 := frozen_of C7 1
          have z2 := frozen_of C7 2
          have C8 := put3 (x' := .bool p2') (y' := .bool q2') (z' := .int .i64 r2') C7
          obtain ⟨d0, d1, d2⟩ := cells3 C7
          have B8 := set_far (set_far (set_far B7 hne (p := ⟨mb, 0, none⟩) (.bool p2')) hne (p := ⟨mb, 1, none⟩) (.bool q2')) hne (p := ⟨mb, 2, none⟩) (.int .i64 r2')
          obtain ⟨e0, e1, e2⟩ := cells3 B8
          obtain ⟨f0, f1, f2⟩ := cells3 C8
          have HB8 := Lib.hid B8
          have HC8 := Lib.hid C8
          have HF8 := Lib.hid F8
          clear B6 C6 F6 F7 B7 C7 F8 C8 B8 F2 B2 C2 HS HS2
          cases p2'
          · go_wp2
            go_roundw
            case rel => exact ⟨k + 1, _, _, rfl, by omega, HG2.out, HBG.out, HBH.out, HB8.out, HC8.out, HF8.out⟩
            case measure => simp [intOf]; omega
          · obtain rfl : p' = true := HON.out rfl
            go_wp2
            go_roundw
            case rel => exact ⟨k + 1, _, _, rfl, by omega, HG2.out, HBG.out, HBH.out, HB8.out, HC8.out, HF8.out⟩
            case measure => simp [intOf]; omega
        · have F5 := Fk.below
          have hlt' : ¬ (k : Int) < (n : Int) := by omega
          have HF := Lib.hid F5
          clear F5 Fk hB hC
          go_wp2
          go_ret
          exact ⟨rfl, HF.out⟩
    · have e1 : decide (a2 < a1) = false := decide_eq_false hab
      obtain ⟨d, hd⟩ : ∃ d, d = a1 % 20 := ⟨_, rfl⟩
      have hd9 : 0 ≤ d ∧ d ≤ 19 := by omega
      obtain ⟨d2, hd2⟩ : ∃ d2, d2 = d + (a2 - a1) := ⟨_, rfl⟩
      have hd3 : d ≤ d2 ∧ d2 ≤ 300 := by omega
      have E4 : IntKind.i64.wrap (a1.tmod 20) = d := by
        have h := IntWalk.wrap64_in (a1 % 20) (by omega); rw [Int.tmod_eq_emod_of_nonneg b1.1, hd]; exact (IntWalk.i64_left _).trans h
      have HE4 := Lib.hid E4
      have HD2 := Lib.hid hd2
      have HD3 := Lib.hid hd3
      clear E4 hd hd2 hd3
      go_enter Try.func6, Try.ntmps6
      go_wp2_with fail
      refine (lasts_any _).mono ?_
      rintro e w1 ⟨rfl, F1⟩
      go_wp2_with fail
      have A1 : ((w1.alloc (.cells #[.bool false, .bool false, .int .i64 0] 25)).alloc (.cells #[.bool false, .bool false, .int .i64 0] 25)).heap[w1.heap.size]? = some (.cells #[.bool false, .bool false, .int .i64 0] 25 (0, 0)) := alloc_at (alloc_is _ rfl) _
      have A2 : ((w1.alloc (.cells #[.bool false, .bool false, .int .i64 0] 25)).alloc (.cells #[.bool false, .bool false, .int .i64 0] 25)).heap[w1.heap.size + 1]? = some (.cells #[.bool false, .bool false, .int .i64 0] 25 (0, 0)) := alloc_is _ (by simp)
      have F2 := (F1.alloc (.cells #[.bool false, .bool false, .int .i64 0] 25)).alloc (.cells #[.bool false, .bool false, .int .i64 0] 25)
      have hgb : W.heap.size ≤ w1.heap.size := F1.size
      generalize (w1.alloc (.cells #[.bool false, .bool false, .int .i64 0] 25)).alloc (.cells #[.bool false, .bool false, .int .i64 0] 25) = w2 at A1 A2 F2 ⊢
      obtain ⟨mb, hmb⟩ : ∃ mb, mb = w1.heap.size + 1 := ⟨_, rfl⟩
      rw [← hmb] at A2 ⊢
      have hne : w1.heap.size ≠ mb := by omega
      have hmb' : W.heap.size ≤ mb := by omega
      clear hmb
      generalize w1.heap.size = gb at A1 hgb hne ⊢
      clear F1
      go_loopw [9] (fun i wr => LongRel W gb mb i wr) (fun i _ => n - (intOf i).toNat)
      case atStart => exact ⟨0, (false, false, 0), (false, false, 0), rfl, by omega, .inr ⟨rfl, rfl⟩, (show BigI 0 from by unfold BigI; omega), (show BigI 0 from by unfold BigI; omega), A1, A2, F2⟩
      case round =>
        clear A1 A2 F2
        obtain ⟨k, g, h, rfl, hk, hgh, hbg, hbh, hB, hC, Fk⟩ := hrel
        by_cases hlt : k < n
        · obtain ⟨b, o, rfl, hbw⟩ := hr.plain (by omega)
          obtain ⟨l0, -, -⟩ := (hr.fr Fk (fun _ _ x => x)).look hlt
          obtain ⟨x, hx⟩ : ∃ x, (zs.getD k ELook.z).1 = x := ⟨_, rfl⟩
          rw [hx] at l0
          have HX := Lib.hid hx
          clear hx
          have hlt' : (k : Int) < (n : Int) := by omega
          have hbt : BigI (k : Int) := big_small (by omega)
          obtain ⟨hgh2, hon⟩ := longer_tick (i := x) (now := (k : Int)) HD3.out.1 hgh
          obtain ⟨p, q, r⟩ := g
          obtain ⟨p2, q2, r2⟩ := h
          have HS := Lib.hid (step_any wr.drew p q r k x (!x) d hbg hbt)
          have HS2 := Lib.hid (fun w => step_any w p2 q2 r2 k x (!x) d2 hbh hbt)
          have hbg' := gs_big (g := (p, q, r)) (now := k) (i := x) (o := !x) (d := d) hbg hbt
          have hbh' := gs_big (g := (p2, q2, r2)) (now := k) (i := x) (o := !x) (d := d2) hbh hbt
          generalize gs (p, q, r) k x (!x) d = g' at HS hbg' hgh2 hon
          generalize gs (p2, q2, r2) k x (!x) d2 = h' at HS2 hbh' hgh2 hon
          obtain ⟨p', q', r'⟩ := g'
          obtain ⟨p2', q2', r2'⟩ := h'
          have HG2 := Lib.hid hgh2
          have HON := Lib.hid hon
          have HBG := Lib.hid hbg'
          have HBH := Lib.hid hbh'
          obtain ⟨c0, c1, c2⟩ := cells3 hB
          clear hgh2 hon hgh hbg' hbh' hbg hbh hbt
          go_wp2_with fail
          go_still_tail 16, (by kernel_rfl)
          change wpList _ _ _ _ _ wr.drew
          have B2 : wr.drew.heap[gb]? = some (.cells #[.bool p, .bool q, .int .i64 r] 25 (0, 0)) := hB
          have C2 : wr.drew.heap[mb]? = some (.cells #[.bool p2, .bool q2, .int .i64 r2] 25 (0, 0)) := hC
          have F2 : Fr (fun _ => False) W wr.drew := Fk.drewN 1
          try rw [HE4.out]
          clear hB hC Fk c0 c1 c2 l0
          generalize wr.drew = wd at B2 C2 F2 HS ⊢
          go_wp2_with fail
          refine HS.out.mono ?_
          rintro e w4 ⟨rfl, F4⟩
          simp only [gv]
          have B4 := F4.at_ B2 (fun x => x)
          have C4 := F4.at_ C2 (fun x => x)
          have F5 := (F2.step F4 nop).put3 (b := gb) (fun h => by omega) (.bool p') (.bool q') (.int .i64 r')
          have z0 := frozen_of B4 0
          have z1 := frozen_of B4 1
          have z2 := frozen_of B4 2
          have B5 := put3 (x' := .bool p') (y' := .bool q') (z' := .int .i64 r') B4
          obtain ⟨d0, d1, d2⟩ := cells3 B4
          generalize hw5 : ((w4.setCell ⟨gb, 0, none⟩ (.bool p')).setCell ⟨gb, 1, none⟩ (.bool q')).setCell ⟨gb, 2, none⟩ (.int .i64 r') = w5 at B5 F5
          have C5 : w5.heap[mb]? = some (.cells #[.bool p2, .bool q2, .int .i64 r2] 25 (0, 0)) := by
            rw [← hw5]; exact set_far (set_far (set_far C4 (Ne.symm hne) _) (Ne.symm hne) _) (Ne.symm hne) _
          obtain ⟨l0, -, -⟩ := (hr.fr F5 (fun _ _ x => x)).look hlt
          obtain ⟨m0, m1, m2⟩ := cells3 C5
          rw [HX.out] at l0
          go_wp2_with fail
          clear hw5 B4 C4 F4 d0 d1 d2 z0 z1 z2
          go_still_tail 21, (by kernel_rfl)
          change wpList _ _ _ _ _ w5.drew
          try rw [HE4.out]
          have B6 : w5.drew.heap[gb]? = some (.cells #[.bool p', .bool q', .int .i64 r'] 25 (0, 0)) := B5
          have C6 : w5.drew.heap[mb]? = some (.cells #[.bool p2, .bool q2, .int .i64 r2] 25 (0, 0)) := C5
          have F6 : Fr (fun _ => False) W w5.drew := F5.drewN 1
          clear B5 C5 F5 l0 m0 m1 m2
          generalize w5.drew = w6 at B6 C6 F6 ⊢
          go_wp2_with fail
          try rw [← HD2.out]
          refine (HS2.out w6).mono ?_
          rintro e w7 ⟨rfl, F7⟩
          simp only [gv]
          have B7 := F7.at_ B6 (fun x => x)
          have C7 := F7.at_ C6 (fun x => x)
          have F8 := (F6.step F7 nop).put3 (b := mb) (fun h => by omega) (.bool p2') (.bool q2') (.int .i64 r2')
          have z0 := frozen_of C7 0
          have z1 := frozen_of C7 1
          have z2 := frozen_of C7 2
          have C8 := put3 (x' := .bool p2') (y' := .bool q2') (z' := .int .i64 r2') C7
          obtain ⟨d0, d1, d2⟩ := cells3 C7
          have B8 := set_far (set_far (set_far B7 hne (p := ⟨mb, 0, none⟩) (.bool p2')) hne (p := ⟨mb, 1, none⟩) (.bool q2')) hne (p := ⟨mb, 2, none⟩) (.int .i64 r2')
          obtain ⟨e0, e1, e2⟩ := cells3 B8
          obtain ⟨f0, f1, f2⟩ := cells3 C8
          have HB8 := Lib.hid B8
          have HC8 := Lib.hid C8
          have HF8 := Lib.hid F8
          clear B6 C6 F6 F7 B7 C7 F8 C8 B8 F2 B2 C2 HS HS2
          cases p2'
          · go_wp2
            go_roundw
            case rel => exact ⟨k + 1, _, _, rfl, by omega, HG2.out, HBG.out, HBH.out, HB8.out, HC8.out, HF8.out⟩
            case measure => simp [intOf]; omega
          · obtain rfl : p' = true := HON.out rfl
            go_wp2
            go_roundw
            case rel => exact ⟨k + 1, _, _, rfl, by omega, HG2.out, HBG.out, HBH.out, HB8.out, HC8.out, HF8.out⟩
            case measure => simp [intOf]; omega
        · have F5 := Fk.below
          have hlt' : ¬ (k : Int) < (n : Int) := by omega
          have HF := Lib.hid F5
          clear F5 Fk hB hC
          go_wp2
          go_ret
          exact ⟨rfl, HF.out⟩
  · have e0 : (60 : Int) < (n : Int) := by omega
    go_enter Try.func6, Try.ntmps6
    go_wp2_with fail
    refine (lasts_any _).mono ?_
    rintro e w1 ⟨rfl, F1⟩
    go_wp2_with fail
    refine (lasts_any _).mono ?_
    rintro e w2 ⟨rfl, F2⟩
    have HF := Lib.hid (F1.step F2 nop).below
    go_wp2
    go_ret
    exact ⟨rfl, HF.out⟩

end Go.Proofs.Ytbnbiffdamogfaa
