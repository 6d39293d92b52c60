/- The walk of GatePlays. -/
import Derived.Test.YtbnbiffdamogfaaChecked
import Derived.WalkKit
import Derived.Laws.IdiomCopy
import Derived.Deep.QuietTactic
import Derived.BigQuiet
import Derived.Lib.Hide
import Derived.OpenShut
import Derived.StillTailTactics
import Derived.Deep.RegionWith
import Derived.Test.YtbnbiffdamogfaaBase
import Derived.Test.YtbnbiffdamogfaaClk
import Derived.Test.YtbnbiffdamogfaaClkR
import Derived.Test.YtbnbiffdamogfaaGt
import Derived.Test.YtbnbiffdamogfaaGtR
import Derived.Test.YtbnbiffdamogfaaGtL
namespace Go.Proofs.Ytbnbiffdamogfaa
open Go.RowKit
set_option linter.unusedVariables false
set_option linter.unusedSimpArgs false

/-! ### GatePlays -/
def ELook : El (Bool × Bool × Int) := ⟨fun x => [.bool x.1, .bool x.2.1, .int .u8 x.2.2], 3, fun _ => rfl, by omega, (false, false, 0)⟩
theorem Reads.look {w : World} {b o n : Nat} {xs : List (Bool × Bool × Int)} (h : Reads ELook w (some ⟨b, o, none⟩) n xs) {k : Nat} (hk : k < n) :
    w.cell? ⟨b, o + k * 3, none⟩ = some (.bool (xs.getD k ELook.z).1) ∧ w.cell? ⟨b, o + k * 3 + 1, none⟩ = some (.bool (xs.getD k ELook.z).2.1) ∧ w.cell? ⟨b, o + k * 3 + 2, none⟩ = some (.int .u8 (xs.getD k ELook.z).2.2) :=
  ⟨h.cellj (j := 0) hk (by decide), h.cellj (j := 1) hk (by decide), h.cellj (j := 2) hk (by decide)⟩
theorem look_ok {xs : List (Bool × Bool × Int)} (hw : ∀ y, y ∈ xs → True ∧ True ∧ (Lit.int .u8 y.2.2).wf = true) {k : Nat} (hk : k < xs.length) : 0 ≤ (xs.getD k ELook.z).2.2 ∧ (xs.getD k ELook.z).2.2 ≤ 255 := by
  have : xs.getD k ELook.z ∈ xs := by simp [List.getD_eq_getElem?_getD, hk]
  exact bounds_u8 (hw _ this).2.2
theorem gs_big {g : Bool × Bool × Int} {now : Int} {i o : Bool} {d : Int} (hg : BigI g.2.2) (hn : BigI now) : BigI (gs g now i o d).2.2 := by
  have h0 : BigI 0 := by unfold BigI; omega
  unfold gs; (repeat' split) <;> assumption

def PlayRel (W : World) (gb mb : Nat) (now i : Value) (wr : World) : Prop :=
  ∃ (k : Nat) (t : Int) (p q : Bool) (r : Int), i = .int .i64 k ∧ now = .int .i64 t ∧ k ≤ 100 ∧ 1 ≤ t ∧ t ≤ 1 + 3 * (k : Int) ∧ wr.heap[gb]? = some (.cells #[.bool p, .bool q, .int .i64 r] 25 (0, 0)) ∧
    wr.heap[mb]? = some (.cells #[.bool p, .bool q, .int .i64 r] 26 (0, 0)) ∧ BigI r ∧ Fr (fun _ => False) W wr

set_option maxRecDepth 100000 in
set_option maxHeartbeats 1000000 in
theorem GatePlays_walk (A : Option Addr) (n cap : Nat) (zs : List (Bool × Bool × Int)) (a1 : Int) (W : World) (hr : Reads ELook W A n zs) (hw : ∀ y, y ∈ zs → True ∧ True ∧ (Lit.int .u8 y.2.2).wf = true) (hcap : n ≤ cap ∧ cap ≤ maxLen) (w1 : (Lit.int .u8 a1).wf = true) :
    Calls Try.prog 3 #[.slice A n cap, .int .u8 a1] W fun e w' => e = .returned (.bool true) ∧ Below W.heap.size W w' := by
  have b1 := bounds_u8 w1
  clear w1 hcap
  by_cases hn : n ≤ 100
  · have e0 : ¬ (100 : Int) < (n : Int) := by omega
    have HL := Lib.hid hr.1
    have HW := Lib.hid hw
    clear hw
    go_enter Try.func3, Try.ntmps3
    go_wp2_with fail
    refine (lasts_any _).mono ?_
    rintro e w1 ⟨rfl, F1⟩
    go_wp2_with fail
    have A1 : ((w1.alloc (.cells #[.bool false, .bool false, .int .i64 0] 25)).alloc (.cells #[.bool false, .bool false, .int .i64 0] 26)).heap[w1.heap.size]? = some (.cells #[.bool false, .bool false, .int .i64 0] 25 (0, 0)) := alloc_at (alloc_is _ rfl) _
    have A2 : ((w1.alloc (.cells #[.bool false, .bool false, .int .i64 0] 25)).alloc (.cells #[.bool false, .bool false, .int .i64 0] 26)).heap[w1.heap.size + 1]? = some (.cells #[.bool false, .bool false, .int .i64 0] 26 (0, 0)) := alloc_is _ (by simp)
    have F2 := (F1.alloc (.cells #[.bool false, .bool false, .int .i64 0] 25)).alloc (.cells #[.bool false, .bool false, .int .i64 0] 26)
    have hgb : W.heap.size ≤ w1.heap.size := F1.size
    generalize (w1.alloc (.cells #[.bool false, .bool false, .int .i64 0] 25)).alloc (.cells #[.bool false, .bool false, .int .i64 0] 26) = w2 at A1 A2 F2 ⊢
    obtain ⟨mb, hmb⟩ : ∃ mb, mb = w1.heap.size + 1 := ⟨_, rfl⟩
    rw [← hmb] at A2 ⊢
    have hne : w1.heap.size ≠ mb := by omega
    have hmb' : W.heap.size ≤ mb := by omega
    clear hmb
    generalize w1.heap.size = gb at A1 hgb hne ⊢
    clear F1
    go_loopw [7, 8] (fun j i wr => PlayRel W gb mb j i wr) (fun _ i _ => n - (intOf i).toNat)
    case atStart => exact ⟨0, 1, false, false, 0, rfl, rfl, by omega, by omega, by omega, A1, A2, by unfold BigI; omega, F2⟩
    case round =>
      clear A1 A2 F2
      obtain ⟨k, t, p, q, r, rfl, rfl, hk, ht1, ht2, hB, hC, hbr, Fk⟩ := hrel
      by_cases hlt : k < n
      · obtain ⟨b, o, rfl, hbw⟩ := hr.plain (by omega)
        have hrk := hr.fr Fk (fun _ _ x => x)
        obtain ⟨l0, l1, l2⟩ := hrk.look hlt
        have hl2 := look_ok HW.out (show k < zs.length by have := HL.out; omega)
        obtain ⟨x, hx⟩ : ∃ x, zs.getD k ELook.z = x := ⟨_, rfl⟩
        rw [hx] at l0 l1 l2 hl2
        obtain ⟨xi, xo, xb⟩ := x
        have HX := Lib.hid hx
        clear hx
        have hlt' : (k : Int) < (n : Int) := by omega
        obtain ⟨c0, c1, c2⟩ := cells3 hB
        obtain ⟨m0, m1, m2⟩ := cells3 hC
        have HRK := Lib.hid hrk
        clear hrk
        go_wp2_with fail
        have E3 : wrap64 (t + wrap64 (xb.tmod 4)) = t + xb % 4 := by
          rw [Int.tmod_eq_emod_of_nonneg hl2.1, IntWalk.wrap64_in (xb % 4) (by omega), IntWalk.wrap64_in _ (by omega)]
        obtain ⟨t', ht'⟩ : ∃ t', t' = t + xb % 4 := ⟨_, rfl⟩
        rw [← ht'] at E3
        have hbt : BigI t' := big_small (by omega)
        have ht3 : 1 ≤ t' ∧ t' ≤ 1 + 3 * ((k + 1 : Nat) : Int) := by omega
        obtain ⟨d, hd⟩ : ∃ d, d = a1 % 10 := ⟨_, rfl⟩
        have hd9 : 0 ≤ d ∧ d ≤ 9 := by omega
        have E4 : IntKind.i64.wrap (a1.tmod 10) = d := by
          have h := IntWalk.wrap64_in (a1 % 10) (by omega); rw [Int.tmod_eq_emod_of_nonneg b1.1, hd]; exact (IntWalk.i64_left _).trans h
        have HE4 := Lib.hid E4
        have HE3 := Lib.hid E3
        clear hd E4
        go_still_tail 15, (by kernel_rfl)
        change wpList _ _ _ _ _ wr.drew
        have HS := Lib.hid (step_any wr.drew p q r t' xi xo d hbr hbt)
        have HS2 := Lib.hid (fun w => rstep_any w p q r t' xi xo d hbr hbt)
        have hbr' := gs_big (g := (p, q, r)) (now := t') (i := xi) (o := xo) (d := d) hbr hbt
        generalize gs (p, q, r) t' xi xo d = g' at HS HS2 hbr'
        obtain ⟨p', q', r'⟩ := g'
        have B2 : wr.drew.heap[gb]? = some (.cells #[.bool p, .bool q, .int .i64 r] 25 (0, 0)) := hB
        have C2 : wr.drew.heap[mb]? = some (.cells #[.bool p, .bool q, .int .i64 r] 26 (0, 0)) := hC
        have F2 : Fr (fun _ => False) W wr.drew := Fk.drewN 1
        have HT := Lib.hid ht'
        rw [HE4.out]
        clear hB hC Fk c0 c1 c2 m0 m1 m2 l0 l1 l2 ht' hbr
        generalize wr.drew = wd at B2 C2 F2 HS ⊢
        go_wp2_with fail
        rw [← HT.out]
        refine HS.out.mono ?_
        rintro e w4 ⟨rfl, F4⟩
        simp only [gv]
        have B4 := F4.at_ B2 (fun x => x)
        have C4 := F4.at_ C2 (fun x => x)
        have F5 := (F2.step F4 nop).put3 (b := gb) (fun h => by omega) (.bool p') (.bool q') (.int .i64 r')
        have z0 := frozen_of B4 0
        have z1 := frozen_of B4 1
        have z2 := frozen_of B4 2
        have B5 := put3 (x' := .bool p') (y' := .bool q') (z' := .int .i64 r') B4
        obtain ⟨d0, d1, d2⟩ := cells3 B4
        generalize hw5 : ((w4.setCell ⟨gb, 0, none⟩ (.bool p')).setCell ⟨gb, 1, none⟩ (.bool q')).setCell ⟨gb, 2, none⟩ (.int .i64 r') = w5 at B5 F5
        have C5 : w5.heap[mb]? = some (.cells #[.bool p, .bool q, .int .i64 r] 26 (0, 0)) := by
          rw [← hw5]; exact set_far (set_far (set_far C4 (Ne.symm hne) _) (Ne.symm hne) _) (Ne.symm hne) _
        obtain ⟨l0, l1, l2⟩ := (hr.fr F5 (fun _ _ x => x)).look hlt
        obtain ⟨m0, m1, m2⟩ := cells3 C5
        rw [HX.out] at l0 l1 l2
        go_wp2_with fail
        clear hw5 B4 C4 F4 d0 d1 d2 z0 z1 z2
        go_still_tail 15, (by kernel_rfl)
        change wpList _ _ _ _ _ w5.drew
        rw [HE4.out]
        have B6 : w5.drew.heap[gb]? = some (.cells #[.bool p', .bool q', .int .i64 r'] 25 (0, 0)) := B5
        have C6 : w5.drew.heap[mb]? = some (.cells #[.bool p, .bool q, .int .i64 r] 26 (0, 0)) := C5
        have F6 : Fr (fun _ => False) W w5.drew := F5.drewN 1
        clear B5 C5 F5 l0 l1 l2 m0 m1 m2
        generalize w5.drew = w6 at B6 C6 F6 ⊢
        go_wp2_with fail
        refine (HS2.out w6).mono ?_
        rintro e w7 ⟨rfl, F7⟩
        simp only [gv]
        have B7 := F7.at_ B6 (fun x => x)
        have C7 := F7.at_ C6 (fun x => x)
        have F8 := (F6.step F7 nop).put3 (b := mb) (fun h => by omega) (.bool p') (.bool q') (.int .i64 r')
        have z0 := frozen_of C7 0
        have z1 := frozen_of C7 1
        have z2 := frozen_of C7 2
        have C8 := put3 (x' := .bool p') (y' := .bool q') (z' := .int .i64 r') C7
        obtain ⟨d0, d1, d2⟩ := cells3 C7
        have B8 := set_far (set_far (set_far B7 hne (p := ⟨mb, 0, none⟩) (.bool p')) hne (p := ⟨mb, 1, none⟩) (.bool q')) hne (p := ⟨mb, 2, none⟩) (.int .i64 r')
        obtain ⟨e0, e1, e2⟩ := cells3 B8
        obtain ⟨f0, f1, f2⟩ := cells3 C8
        have t1 : (p' != p') = false := by simp
        have t2 : (q' != q') = false := by simp
        have t3 : (r' != r') = false := by simp
        have HB8 := Lib.hid B8
        have HC8 := Lib.hid C8
        have HF8 := Lib.hid F8
        have HBR := Lib.hid hbr'
        clear B6 C6 F6 F7 B7 C7 F8 C8 B8 F2 B2 C2 HS HS2
        go_wp2
        go_roundw
        case rel => exact ⟨k + 1, t', p', q', r', rfl, rfl, by omega, ht3.1, ht3.2, HB8.out, HC8.out, HBR.out, HF8.out⟩
        case measure => simp [intOf]; omega
      · have F5 := Fk.below
        have hlt' : ¬ (k : Int) < (n : Int) := by omega
        have HF := Lib.hid F5
        clear F5 Fk hB hC
        go_wp2
        go_ret
        exact ⟨rfl, HF.out⟩
  · have e0 : (100 : Int) < (n : Int) := by omega
    go_enter Try.func3, Try.ntmps3
    go_wp2_with fail
    refine (lasts_any _).mono ?_
    rintro e w1 ⟨rfl, F1⟩
    go_wp2_with fail
    refine (lasts_any _).mono ?_
    rintro e w2 ⟨rfl, F2⟩
    have HF := Lib.hid (F1.step F2 nop).below
    go_wp2
    go_ret
    exact ⟨rfl, HF.out⟩

end Go.Proofs.Ytbnbiffdamogfaa
