/- HPlays. -/
import Derived.Test.YtbnbiffdamogfaaChecked
import Derived.WalkKit
import Derived.Laws.IdiomCopy
import Derived.Deep.QuietTactic
import Derived.BigQuiet
import Derived.Lib.Hide
import Derived.OpenShut
import Derived.StillTailTactics
import Derived.Deep.RegionWith
import Derived.Test.YtbnbiffdamogfaaBase
import Derived.Test.YtbnbiffdamogfaaClk
import Derived.Test.YtbnbiffdamogfaaClkR
import Derived.Test.YtbnbiffdamogfaaCalm
import Derived.Test.YtbnbiffdamogfaaCalmT
import Derived.Test.YtbnbiffdamogfaaHsh
import Derived.Test.YtbnbiffdamogfaaHSame
import Derived.Test.YtbnbiffdamogfaaHRaw
namespace Go.Proofs.Ytbnbiffdamogfaa
open Go.RowKit
set_option linter.unusedVariables false
set_option linter.unusedSimpArgs false

/-! ### HushPlays -/
def EAct : El (Int × Int × Int × Int) := ⟨fun x => [.int .u8 x.1, .int .u8 x.2.1, .int .u8 x.2.2.1, .int .i16 x.2.2.2], 4, fun _ => rfl, by omega, (0, 0, 0, 0)⟩
theorem Reads.act {w : World} {b o n : Nat} {xs : List (Int × Int × Int × Int)} (h : Reads EAct w (some ⟨b, o, none⟩) n xs) {k : Nat} (hk : k < n) :
    w.cell? ⟨b, o + k * 4, none⟩ = some (.int .u8 (xs.getD k EAct.z).1) ∧ w.cell? ⟨b, o + k * 4 + 1, none⟩ = some (.int .u8 (xs.getD k EAct.z).2.1) ∧ w.cell? ⟨b, o + k * 4 + 2, none⟩ = some (.int .u8 (xs.getD k EAct.z).2.2.1) ∧ w.cell? ⟨b, o + k * 4 + 3, none⟩ = some (.int .i16 (xs.getD k EAct.z).2.2.2) :=
  ⟨h.cellj (j := 0) hk (by decide), h.cellj (j := 1) hk (by decide), h.cellj (j := 2) hk (by decide), h.cellj (j := 3) hk (by decide)⟩
theorem act_ok {xs : List (Int × Int × Int × Int)} (hw : ∀ y, y ∈ xs → (Lit.int .u8 y.1).wf = true ∧ (Lit.int .u8 y.2.1).wf = true ∧ (Lit.int .u8 y.2.2.1).wf = true ∧ (Lit.int .i16 y.2.2.2).wf = true) {k : Nat} (hk : k < xs.length) :
    (0 ≤ (xs.getD k EAct.z).1 ∧ (xs.getD k EAct.z).1 ≤ 255) ∧ (0 ≤ (xs.getD k EAct.z).2.1 ∧ (xs.getD k EAct.z).2.1 ≤ 255) ∧ (0 ≤ (xs.getD k EAct.z).2.2.1 ∧ (xs.getD k EAct.z).2.2.1 ≤ 255) ∧ (-32768 ≤ (xs.getD k EAct.z).2.2.2 ∧ (xs.getD k EAct.z).2.2.2 ≤ 32767) := by
  have h : xs.getD k EAct.z ∈ xs := by simp [List.getD_eq_getElem?_getD, hk]
  exact ⟨bounds_u8 (hw _ h).1, bounds_u8 (hw _ h).2.1, bounds_u8 (hw _ h).2.2.1, bounds_i16 (hw _ h).2.2.2⟩
theorem cells4 {w : World} {b : Nat} {x y z u : Value} {t : TypeId} (h : w.heap[b]? = some (.cells #[x, y, z, u] t (0, 0))) : w.cell? ⟨b, 0, none⟩ = some x ∧ w.cell? ⟨b, 1, none⟩ = some y ∧ w.cell? ⟨b, 2, none⟩ = some z ∧ w.cell? ⟨b, 3, none⟩ = some u := by
  refine ⟨?_, ?_, ?_, ?_⟩ <;> (rw [cell_of h]; rfl)
theorem Calm.cells4 {w : World} {b : Nat} {x y z u : Value} {t : TypeId} (h : w.heap[b]? = some (.cells #[x, y, z, u] t (0, 0))) : (∀ n : Calm w, n.to.cell? ⟨b, 0, none⟩ = some x) ∧ (∀ n : Calm w, n.to.cell? ⟨b, 1, none⟩ = some y) ∧ (∀ n : Calm w, n.to.cell? ⟨b, 2, none⟩ = some z) ∧ (∀ n : Calm w, n.to.cell? ⟨b, 3, none⟩ = some u) := by
  refine ⟨fun n => ?_, fun n => ?_, fun n => ?_, fun n => ?_⟩ <;> (rw [cell_of (n.fr.at_ h (fun x => x))]; rfl)
theorem near_small {a : Int} (h : -100000 ≤ a ∧ a ≤ 100000) : Near a := by unfold Near; omega

def HPlay (W : World) (gb mb : Nat) (now i : Value) (wr : World) : Prop :=
  ∃ (k : Nat) (t : Int) (u o m : Int), now = .int .i64 t ∧ i = .int .i64 k ∧ k ≤ 100 ∧ 1 ≤ t ∧ t ≤ 1 + 8 * (k : Int) ∧ wr.heap[gb]? = some (.cells #[.int .i64 u, .int .i64 o, .int .u8 m] 38 (0, 0)) ∧
    wr.heap[mb]? = some (.cells #[.int .i64 u, .int .i64 o, .int .u8 m] 49 (0, 0)) ∧ Fr (fun _ => False) W wr

set_option maxRecDepth 100000 in
set_option maxHeartbeats 4000000 in
theorem HushPlays_walk (A : Option Addr) (n cap : Nat) (zs : List (Int × Int × Int × Int)) (a1 : Int) (W : World) (hr : Reads EAct W A n zs) (hw : ∀ y, y ∈ zs → (Lit.int .u8 y.1).wf = true ∧ (Lit.int .u8 y.2.1).wf = true ∧ (Lit.int .u8 y.2.2.1).wf = true ∧ (Lit.int .i16 y.2.2.2).wf = true) (hcap : n ≤ cap ∧ cap ≤ maxLen) (w1 : (Lit.int .u8 a1).wf = true) :
    Calls Try.prog 11 #[.slice A n cap, .int .u8 a1] W fun e w' => e = .returned (.bool true) ∧ Below W.heap.size W w' := by
  have b1 := bounds_u8 w1
  clear w1 hcap
  have HL := Lib.hid hr.1
  have HW := Lib.hid hw
  clear hw
  by_cases hn : n ≤ 100
  · have e0 : ¬ (100 : Int) < (n : Int) := by omega
    go_enter Try.func11, Try.ntmps11
    go_wp2_with fail
    refine (ends_any _).mono ?_
    rintro e w1 ⟨rfl, F1⟩
    go_wp2_with fail
    have A1 : ((w1.alloc (.cells #[.int .i64 0, .int .i64 0, .int .u8 0] 38)).alloc (.cells #[.int .i64 0, .int .i64 0, .int .u8 0] 49)).heap[w1.heap.size]? = some (.cells #[.int .i64 0, .int .i64 0, .int .u8 0] 38 (0, 0)) := alloc_at (alloc_is _ rfl) _
    have A2 : ((w1.alloc (.cells #[.int .i64 0, .int .i64 0, .int .u8 0] 38)).alloc (.cells #[.int .i64 0, .int .i64 0, .int .u8 0] 49)).heap[w1.heap.size + 1]? = some (.cells #[.int .i64 0, .int .i64 0, .int .u8 0] 49 (0, 0)) := alloc_is _ (by simp)
    have F2 := (F1.alloc (.cells #[.int .i64 0, .int .i64 0, .int .u8 0] 38)).alloc (.cells #[.int .i64 0, .int .i64 0, .int .u8 0] 49)
    have hgb : W.heap.size ≤ w1.heap.size := F1.size
    generalize (w1.alloc (.cells #[.int .i64 0, .int .i64 0, .int .u8 0] 38)).alloc (.cells #[.int .i64 0, .int .i64 0, .int .u8 0] 49) = w2 at A1 A2 F2 ⊢
    obtain ⟨mb, hmb⟩ : ∃ mb, mb = w1.heap.size + 1 := ⟨_, rfl⟩
    rw [← hmb] at A2 ⊢
    have hne : w1.heap.size ≠ mb := by omega
    have hmb' : W.heap.size ≤ mb := by omega
    clear hmb
    generalize w1.heap.size = gb at A1 hgb hne ⊢
    clear F1
    go_loopw [7, 9] (fun j i wr => HPlay W gb mb j i wr) (fun _ i _ => n - (intOf i).toNat)
    case atStart => exact ⟨0, 1, 0, 0, 0, rfl, rfl, by omega, by omega, by omega, A1, A2, F2⟩
    case round =>
      clear A1 A2 F2
      obtain ⟨k, t, u, o2, m, rfl, rfl, hk, ht1, ht2, hB, hC, Fk⟩ := hrel
      by_cases hlt : k < n
      · obtain ⟨b, o, rfl, hbw⟩ := hr.plain (by omega)
        obtain ⟨l0, l1, l2, l3⟩ := (hr.fr Fk (fun _ _ x => x)).act hlt
        obtain ⟨y1, y2, y3, y4⟩ := act_ok HW.out (show k < zs.length by have := HL.out; omega)
        generalize zs.getD k EAct.z = x at l0 l1 l2 l3 y1 y2 y3 y4
        obtain ⟨xd, xb, xm, xt⟩ := x
        simp only at l0 l1 l2 l3 y1 y2 y3 y4
        have hlt' : (k : Int) < (n : Int) := by omega
        obtain ⟨t', ht'⟩ : ∃ t', t' = t + xb % 9 := ⟨_, rfl⟩
        have ht3 : 1 ≤ t' ∧ t' ≤ 1 + 8 * ((k + 1 : Nat) : Int) := by omega
        have nt : Near t' := near_small (by omega)
        have na : Near a1 := near_small (by omega)
        have nx : Near xt := near_small (by omega)
        have HT := Lib.hid ht'
        clear ht'
        have B2 := alloc_at hB (.cells #[.int .u8 xd, .int .u8 xb, .int .u8 xm, .int .i16 xt] 52)
        have C2 := alloc_at hC (.cells #[.int .u8 xd, .int .u8 xb, .int .u8 xm, .int .i16 xt] 52)
        have X2 := alloc_is (w := wr) (n := wr.heap.size) (.cells #[.int .u8 xd, .int .u8 xb, .int .u8 xm, .int .i16 xt] 52) rfl
        have F2 := Fk.alloc (.cells #[.int .u8 xd, .int .u8 xb, .int .u8 xm, .int .i16 xt] 52)
        generalize hw2 : wr.alloc (.cells #[.int .u8 xd, .int .u8 xb, .int .u8 xm, .int .i16 xt] 52) = w2 at B2 C2 X2 F2
        obtain ⟨p0, p1, p2, p3⟩ := cells4 X2
        by_cases h0 : xd % 3 = 0
        · have e3 : (xd % 3 == 0) = true := by simp [h0]
          have e4 : decide (xd % 3 = 0) = true := decide_eq_true h0
          have H0 := Lib.hid h0
          clear h0
          have P1 := Lib.hid (fun w => pause_any w u o2 m t' xt a1 (xm.tmod 4) nt nx na)
          have P2 := Lib.hid (fun w => rpause_any w u o2 m t' xt a1 (xm.tmod 4) nt nx na)
          generalize hp (u, o2, m) t' xt a1 (xm.tmod 4) = g at P1 P2
          obtain ⟨u', o', m'⟩ := g
          go_wp2_with fail
          rw [← HT.out]
          generalize wr.heap.size = xk at X2 p0 p1 p2 p3 ⊢
          clear hw2 hB hC Fk l0 l1 l2 l3 p0 p1 p2 p3
          obtain ⟨c0, c1, c2⟩ := Calm.cells3 B2
          obtain ⟨d0, d1, d2⟩ := Calm.cells3 C2
          obtain ⟨q0, q1, q2, q3⟩ := Calm.cells4 X2
          have sx : IntKind.i64.wrap xt = xt := (IntWalk.i64_left _).trans (IntWalk.wrap64_in _ (by omega))
          have HY := Lib.hid (And.intro y1 (And.intro y2 (And.intro y3 y4)))
          clear y1 y2 y3 y4
          (refine wp_region_calm_tail 20 (by kernel_rfl) (by kernel_rfl) ?_; simp only [List.take_succ_cons, List.take_zero, List.drop_succ_cons, List.drop_zero]; (repeat (go_big_quiet_step (first
            | (go_at_call 19; exact Calm.of (P1.out _))
            | (go_at_call 27; exact Calm.of (P2.out _))))); refine wpQuiet_nil ?_; intro _ hwq0; obtain ⟨nq, hwq1⟩ := hwq0; subst hwq1)
          have B5 := nq.fr.at_ B2 (fun x => x)
          have C5 := nq.fr.at_ C2 (fun x => x)
          have F5 := F2.step nq.fr nop
          clear c0 c1 c2 d0 d1 d2 q0 q1 q2 q3 B2 C2 X2 F2 sx
          generalize nq.to = w5 at B5 C5 F5 ⊢
          have z0 := frozen_of B5 0
          have z1 := frozen_of B5 1
          have z2 := frozen_of B5 2
          obtain ⟨c0, c1, c2⟩ := cells3 B5
          have B6 := put3 (x' := .int .i64 u') (y' := .int .i64 o') (z' := .int .u8 m') B5
          have C6 := set_far (set_far (set_far C5 (Ne.symm hne) (p := ⟨gb, 0, none⟩) (.int .i64 u')) (Ne.symm hne) (p := ⟨gb, 1, none⟩) (.int .i64 o')) (Ne.symm hne) (p := ⟨gb, 2, none⟩) (.int .u8 m')
          have F6 := F5.put3 (b := gb) (fun h => by omega) (.int .i64 u') (.int .i64 o') (.int .u8 m')
          generalize hw6 : ((w5.setCell ⟨gb, 0, none⟩ (.int .i64 u')).setCell ⟨gb, 1, none⟩ (.int .i64 o')).setCell ⟨gb, 2, none⟩ (.int .u8 m') = w6 at B6 C6 F6
          obtain ⟨d0, d1, d2⟩ := cells3 C6
          have x0 := frozen_of C6 0
          have x1 := frozen_of C6 1
          have x2 := frozen_of C6 2
          have C7 := put3 (x' := .int .i64 u') (y' := .int .i64 o') (z' := .int .u8 m') C6
          have B7 := set_far (set_far (set_far B6 hne (p := ⟨mb, 0, none⟩) (.int .i64 u')) hne (p := ⟨mb, 1, none⟩) (.int .i64 o')) hne (p := ⟨mb, 2, none⟩) (.int .u8 m')
          have F7 := F6.put3 (b := mb) (fun h => by omega) (.int .i64 u') (.int .i64 o') (.int .u8 m')
          generalize hw7 : ((w6.setCell ⟨mb, 0, none⟩ (.int .i64 u')).setCell ⟨mb, 1, none⟩ (.int .i64 o')).setCell ⟨mb, 2, none⟩ (.int .u8 m') = w7 at B7 C7 F7
          obtain ⟨e0, e1, e2⟩ := cells3 B7
          obtain ⟨f0, f1, f2⟩ := cells3 C7
          simp only [hv]
          go_wp2_with fail
          refine (same_any _ u' o' m' t').mono ?_
          rintro e w8 ⟨rfl, F8⟩
          have B8 := F8.at_ B7 (fun x => x)
          have C8 := F8.at_ C7 (fun x => x)
          have F9 := F7.step F8 nop
          clear B5 C5 F5 B6 C6 F6 hw6 hw7 B7 C7 F7 c0 c1 c2 d0 d1 d2 e0 e1 e2 f0 f1 f2 x0 x1 x2 z0 z1 z2 F8
          obtain ⟨e0, e1, e2⟩ := cells3 B8
          obtain ⟨f0, f1, f2⟩ := cells3 C8
          go_wp2_with fail
          refine (same_any _ u' o' m' (t' + 1)).mono ?_
          rintro e w9 ⟨rfl, F8⟩
          have HB := Lib.hid (F8.at_ B8 (fun x => x))
          have HC := Lib.hid (F8.at_ C8 (fun x => x))
          have HF := Lib.hid (F9.step F8 nop)
          clear B8 C8 F9 F8 e0 e1 e2 f0 f1 f2
          go_wp2
          go_roundw
          case rel => exact ⟨k + 1, t', u', o', m', rfl, rfl, by omega, ht3.1, ht3.2, HB.out, HC.out, HF.out⟩
          case measure => simp [intOf]; omega
        · have e3 : (xd % 3 == 0) = false := by simpa using h0
          by_cases h1 : xd % 3 = 1
          · have e4 : (xd % 3 == 1) = true := by simp [h1]
            have H0 := Lib.hid h1
            clear h1 h0
            have P1 := Lib.hid (fun w => silence_any w u o2 m t' xt a1 nt nx na)
            have P2 := Lib.hid (fun w => rsilence_any w u o2 m t' xt a1 nt nx na)
            generalize hs (u, o2, m) t' xt a1 = g at P1 P2
            obtain ⟨u', o', m'⟩ := g
            go_wp2_with fail
            rw [← HT.out]
            generalize wr.heap.size = xk at X2 p0 p1 p2 p3 ⊢
            clear hw2 hB hC Fk l0 l1 l2 l3 p0 p1 p2 p3
            obtain ⟨c0, c1, c2⟩ := Calm.cells3 B2
            obtain ⟨d0, d1, d2⟩ := Calm.cells3 C2
            obtain ⟨q0, q1, q2, q3⟩ := Calm.cells4 X2
            have sx : IntKind.i64.wrap xt = xt := (IntWalk.i64_left _).trans (IntWalk.wrap64_in _ (by omega))
            have HY := Lib.hid (And.intro y1 (And.intro y2 (And.intro y3 y4)))
            clear y1 y2 y3 y4
            (refine wp_region_calm_tail 14 (by kernel_rfl) (by kernel_rfl) ?_; simp only [List.take_succ_cons, List.take_zero, List.drop_succ_cons, List.drop_zero]; (repeat (go_big_quiet_step (first
              | (go_at_call 21; exact Calm.of (P1.out _))
              | (go_at_call 28; exact Calm.of (P2.out _))))); refine wpQuiet_nil ?_; intro _ hwq0; obtain ⟨nq, hwq1⟩ := hwq0; subst hwq1)
            have B5 := nq.fr.at_ B2 (fun x => x)
            have C5 := nq.fr.at_ C2 (fun x => x)
            have F5 := F2.step nq.fr nop
            clear c0 c1 c2 d0 d1 d2 q0 q1 q2 q3 B2 C2 X2 F2 sx
            generalize nq.to = w5 at B5 C5 F5 ⊢
            have z0 := frozen_of B5 0
            have z1 := frozen_of B5 1
            have z2 := frozen_of B5 2
            obtain ⟨c0, c1, c2⟩ := cells3 B5
            have B6 := put3 (x' := .int .i64 u') (y' := .int .i64 o') (z' := .int .u8 m') B5
            have C6 := set_far (set_far (set_far C5 (Ne.symm hne) (p := ⟨gb, 0, none⟩) (.int .i64 u')) (Ne.symm hne) (p := ⟨gb, 1, none⟩) (.int .i64 o')) (Ne.symm hne) (p := ⟨gb, 2, none⟩) (.int .u8 m')
            have F6 := F5.put3 (b := gb) (fun h => by omega) (.int .i64 u') (.int .i64 o') (.int .u8 m')
            generalize hw6 : ((w5.setCell ⟨gb, 0, none⟩ (.int .i64 u')).setCell ⟨gb, 1, none⟩ (.int .i64 o')).setCell ⟨gb, 2, none⟩ (.int .u8 m') = w6 at B6 C6 F6
            obtain ⟨d0, d1, d2⟩ := cells3 C6
            have x0 := frozen_of C6 0
            have x1 := frozen_of C6 1
            have x2 := frozen_of C6 2
            have C7 := put3 (x' := .int .i64 u') (y' := .int .i64 o') (z' := .int .u8 m') C6
            have B7 := set_far (set_far (set_far B6 hne (p := ⟨mb, 0, none⟩) (.int .i64 u')) hne (p := ⟨mb, 1, none⟩) (.int .i64 o')) hne (p := ⟨mb, 2, none⟩) (.int .u8 m')
            have F7 := F6.put3 (b := mb) (fun h => by omega) (.int .i64 u') (.int .i64 o') (.int .u8 m')
            generalize hw7 : ((w6.setCell ⟨mb, 0, none⟩ (.int .i64 u')).setCell ⟨mb, 1, none⟩ (.int .i64 o')).setCell ⟨mb, 2, none⟩ (.int .u8 m') = w7 at B7 C7 F7
            obtain ⟨e0, e1, e2⟩ := cells3 B7
            obtain ⟨f0, f1, f2⟩ := cells3 C7
            simp only [hv]
            go_wp2_with fail
            refine (same_any _ u' o' m' t').mono ?_
            rintro e w8 ⟨rfl, F8⟩
            have B8 := F8.at_ B7 (fun x => x)
            have C8 := F8.at_ C7 (fun x => x)
            have F9 := F7.step F8 nop
            clear B5 C5 F5 B6 C6 F6 hw6 hw7 B7 C7 F7 c0 c1 c2 d0 d1 d2 e0 e1 e2 f0 f1 f2 x0 x1 x2 z0 z1 z2 F8
            obtain ⟨e0, e1, e2⟩ := cells3 B8
            obtain ⟨f0, f1, f2⟩ := cells3 C8
            go_wp2_with fail
            refine (same_any _ u' o' m' (t' + 1)).mono ?_
            rintro e w9 ⟨rfl, F8⟩
            have HB := Lib.hid (F8.at_ B8 (fun x => x))
            have HC := Lib.hid (F8.at_ C8 (fun x => x))
            have HF := Lib.hid (F9.step F8 nop)
            clear B8 C8 F9 F8 e0 e1 e2 f0 f1 f2
            go_wp2
            go_roundw
            case rel => exact ⟨k + 1, t', u', o', m', rfl, rfl, by omega, ht3.1, ht3.2, HB.out, HC.out, HF.out⟩
            case measure => simp [intOf]; omega
          · have e4 : (xd % 3 == 1) = false := by simpa using h1
            clear h1 h0
            have P1 := Lib.hid (fun w => break_any w u o2 m t' (xm.tmod 4))
            have P2 := Lib.hid (fun w => rbreak_any w u o2 m t' (xm.tmod 4))
            generalize _root_.Go.Proofs.Ytbnbiffdamogfaa.hb (u, o2, m) t' (xm.tmod 4) = g at P1 P2
            obtain ⟨u', o', m'⟩ := g
            go_wp2_with fail
            rw [← HT.out]
            generalize wr.heap.size = xk at X2 p0 p1 p2 p3 ⊢
            clear hw2 hB hC Fk l0 l1 l2 l3 p0 p1 p2 p3
            obtain ⟨c0, c1, c2⟩ := Calm.cells3 B2
            obtain ⟨d0, d1, d2⟩ := Calm.cells3 C2
            obtain ⟨q0, q1, q2, q3⟩ := Calm.cells4 X2
            have sx : IntKind.i64.wrap xt = xt := (IntWalk.i64_left _).trans (IntWalk.wrap64_in _ (by omega))
            have HY := Lib.hid (And.intro y1 (And.intro y2 (And.intro y3 y4)))
            clear y1 y2 y3 y4
            (refine wp_region_calm_tail 12 (by kernel_rfl) (by kernel_rfl) ?_; simp only [List.take_succ_cons, List.take_zero, List.drop_succ_cons, List.drop_zero]; (repeat (go_big_quiet_step (first
              | (go_at_call 26; exact Calm.of (P1.out _))
              | (go_at_call 29; exact Calm.of (P2.out _))))); refine wpQuiet_nil ?_; intro _ hwq0; obtain ⟨nq, hwq1⟩ := hwq0; subst hwq1)
            have B5 := nq.fr.at_ B2 (fun x => x)
            have C5 := nq.fr.at_ C2 (fun x => x)
            have F5 := F2.step nq.fr nop
            clear c0 c1 c2 d0 d1 d2 q0 q1 q2 q3 B2 C2 X2 F2 sx
            generalize nq.to = w5 at B5 C5 F5 ⊢
            have z0 := frozen_of B5 0
            have z1 := frozen_of B5 1
            have z2 := frozen_of B5 2
            obtain ⟨c0, c1, c2⟩ := cells3 B5
            have B6 := put3 (x' := .int .i64 u') (y' := .int .i64 o') (z' := .int .u8 m') B5
            have C6 := set_far (set_far (set_far C5 (Ne.symm hne) (p := ⟨gb, 0, none⟩) (.int .i64 u')) (Ne.symm hne) (p := ⟨gb, 1, none⟩) (.int .i64 o')) (Ne.symm hne) (p := ⟨gb, 2, none⟩) (.int .u8 m')
            have F6 := F5.put3 (b := gb) (fun h => by omega) (.int .i64 u') (.int .i64 o') (.int .u8 m')
            generalize hw6 : ((w5.setCell ⟨gb, 0, none⟩ (.int .i64 u')).setCell ⟨gb, 1, none⟩ (.int .i64 o')).setCell ⟨gb, 2, none⟩ (.int .u8 m') = w6 at B6 C6 F6
            obtain ⟨d0, d1, d2⟩ := cells3 C6
            have x0 := frozen_of C6 0
            have x1 := frozen_of C6 1
            have x2 := frozen_of C6 2
            have C7 := put3 (x' := .int .i64 u') (y' := .int .i64 o') (z' := .int .u8 m') C6
            have B7 := set_far (set_far (set_far B6 hne (p := ⟨mb, 0, none⟩) (.int .i64 u')) hne (p := ⟨mb, 1, none⟩) (.int .i64 o')) hne (p := ⟨mb, 2, none⟩) (.int .u8 m')
            have F7 := F6.put3 (b := mb) (fun h => by omega) (.int .i64 u') (.int .i64 o') (.int .u8 m')
            generalize hw7 : ((w6.setCell ⟨mb, 0, none⟩ (.int .i64 u')).setCell ⟨mb, 1, none⟩ (.int .i64 o')).setCell ⟨mb, 2, none⟩ (.int .u8 m') = w7 at B7 C7 F7
            obtain ⟨e0, e1, e2⟩ := cells3 B7
            obtain ⟨f0, f1, f2⟩ := cells3 C7
            simp only [hv]
            go_wp2_with fail
            refine (same_any _ u' o' m' t').mono ?_
            rintro e w8 ⟨rfl, F8⟩
            have B8 := F8.at_ B7 (fun x => x)
            have C8 := F8.at_ C7 (fun x => x)
            have F9 := F7.step F8 nop
            clear B5 C5 F5 B6 C6 F6 hw6 hw7 B7 C7 F7 c0 c1 c2 d0 d1 d2 e0 e1 e2 f0 f1 f2 x0 x1 x2 z0 z1 z2 F8
            obtain ⟨e0, e1, e2⟩ := cells3 B8
            obtain ⟨f0, f1, f2⟩ := cells3 C8
            go_wp2_with fail
            refine (same_any _ u' o' m' (t' + 1)).mono ?_
            rintro e w9 ⟨rfl, F8⟩
            have HB := Lib.hid (F8.at_ B8 (fun x => x))
            have HC := Lib.hid (F8.at_ C8 (fun x => x))
            have HF := Lib.hid (F9.step F8 nop)
            clear B8 C8 F9 F8 e0 e1 e2 f0 f1 f2
            go_wp2
            go_roundw
            case rel => exact ⟨k + 1, t', u', o', m', rfl, rfl, by omega, ht3.1, ht3.2, HB.out, HC.out, HF.out⟩
            case measure => simp [intOf]; omega
      · have F5 := Fk.below
        have hlt' : ¬ (k : Int) < (n : Int) := by omega
        have HF := Lib.hid F5
        clear F5 Fk hB hC
        go_wp2
        go_ret
        exact ⟨rfl, HF.out⟩
  · have e0 : (100 : Int) < (n : Int) := by omega
    go_enter Try.func11, Try.ntmps11
    go_wp2_with fail
    refine (ends_any _).mono ?_
    rintro e w1 ⟨rfl, F1⟩
    go_wp2_with fail
    refine (ends_any _).mono ?_
    rintro e w2 ⟨rfl, F2⟩
    have HF := Lib.hid (F1.step F2 nop).below
    go_wp2
    go_ret
    exact ⟨rfl, HF.out⟩

end Go.Proofs.Ytbnbiffdamogfaa
