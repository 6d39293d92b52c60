/- TTk. -/
import Derived.Test.YtbmhgkajjjiniaaChecked
import Derived.WalkKit
import Derived.Laws.IdiomCopy
import Derived.Deep.QuietTactic
import Derived.BigQuiet
import Derived.Lib.Hide
import Derived.OpenShut
import Derived.StillTailTactics
import Derived.Deep.RegionWith
import Derived.Deep.RegionLaw
import Derived.Deep.Slices
import Derived.Deep.RegionHeld3
import Derived.OwnWalk
import Derived.Test.YtbmhgkajjjiniaaBase
import Derived.Test.YtbmhgkajjjiniaaCalm
import Derived.Test.YtbmhgkajjjiniaaCalmT
import Derived.Test.YtbmhgkajjjiniaaCel
import Derived.Test.YtbmhgkajjjiniaaApp
import Derived.Test.YtbmhgkajjjiniaaClk
import Derived.Test.YtbmhgkajjjiniaaRV
import Derived.Test.YtbmhgkajjjiniaaRVB
import Derived.Test.YtbmhgkajjjiniaaRVC
import Derived.Test.YtbmhgkajjjiniaaRVA
import Derived.Test.YtbmhgkajjjiniaaCeS
import Derived.Test.YtbmhgkajjjiniaaCeF
import Derived.Test.YtbmhgkajjjiniaaCeG
import Derived.Test.YtbmhgkajjjiniaaCeN
import Derived.Test.YtbmhgkajjjiniaaCeX
import Derived.Test.YtbmhgkajjjiniaaClkR
import Derived.Test.YtbmhgkajjjiniaaSn
import Derived.Test.YtbmhgkajjjiniaaSn2
import Derived.Test.YtbmhgkajjjiniaaCpL
import Derived.Test.YtbmhgkajjjiniaaCel9
import Derived.Test.YtbmhgkajjjiniaaTr
import Derived.Test.YtbmhgkajjjiniaaGCr
import Derived.Test.YtbmhgkajjjiniaaTCh
import Derived.Test.YtbmhgkajjjiniaaGSt
import Derived.Test.YtbmhgkajjjiniaaTOb
namespace Go.Proofs.Ytbmhgkajjjiniaa
open Go.RowKit
set_option linter.unusedVariables false
set_option linter.unusedSimpArgs false

/-! ### Twelve cells -/
theorem cells12 {w : World} {b : Nat} {x0 x1 x2 x3 x4 x5 x6 x7 x8 x9 x10 x11 : Value} {t : TypeId} (h : w.heap[b]? = some (.cells #[x0, x1, x2, x3, x4, x5, x6, x7, x8, x9, x10, x11] t (0, 0))) : w.cell? ⟨b, 0, none⟩ = some x0 ∧ w.cell? ⟨b, 1, none⟩ = some x1 ∧ w.cell? ⟨b, 2, none⟩ = some x2 ∧ w.cell? ⟨b, 3, none⟩ = some x3 ∧ w.cell? ⟨b, 4, none⟩ = some x4 ∧ w.cell? ⟨b, 5, none⟩ = some x5 ∧ w.cell? ⟨b, 6, none⟩ = some x6 ∧ w.cell? ⟨b, 7, none⟩ = some x7 ∧ w.cell? ⟨b, 8, none⟩ = some x8 ∧ w.cell? ⟨b, 9, none⟩ = some x9 ∧ w.cell? ⟨b, 10, none⟩ = some x10 ∧ w.cell? ⟨b, 11, none⟩ = some x11 :=
  ⟨by rw [cell_of h]; rfl, by rw [cell_of h]; rfl, by rw [cell_of h]; rfl, by rw [cell_of h]; rfl, by rw [cell_of h]; rfl, by rw [cell_of h]; rfl, by rw [cell_of h]; rfl, by rw [cell_of h]; rfl, by rw [cell_of h]; rfl, by rw [cell_of h]; rfl, by rw [cell_of h]; rfl, by rw [cell_of h]; rfl⟩
theorem Calm.cells12 {w : World} {b : Nat} {x0 x1 x2 x3 x4 x5 x6 x7 x8 x9 x10 x11 : Value} {t : TypeId} (h : w.heap[b]? = some (.cells #[x0, x1, x2, x3, x4, x5, x6, x7, x8, x9, x10, x11] t (0, 0))) :
    (∀ n : Calm w, n.to.cell? ⟨b, 0, none⟩ = some x0) ∧ (∀ n : Calm w, n.to.cell? ⟨b, 1, none⟩ = some x1) ∧ (∀ n : Calm w, n.to.cell? ⟨b, 2, none⟩ = some x2) ∧ (∀ n : Calm w, n.to.cell? ⟨b, 3, none⟩ = some x3) ∧ (∀ n : Calm w, n.to.cell? ⟨b, 4, none⟩ = some x4) ∧ (∀ n : Calm w, n.to.cell? ⟨b, 5, none⟩ = some x5) ∧ (∀ n : Calm w, n.to.cell? ⟨b, 6, none⟩ = some x6) ∧ (∀ n : Calm w, n.to.cell? ⟨b, 7, none⟩ = some x7) ∧ (∀ n : Calm w, n.to.cell? ⟨b, 8, none⟩ = some x8) ∧ (∀ n : Calm w, n.to.cell? ⟨b, 9, none⟩ = some x9) ∧ (∀ n : Calm w, n.to.cell? ⟨b, 10, none⟩ = some x10) ∧ (∀ n : Calm w, n.to.cell? ⟨b, 11, none⟩ = some x11) := by
  refine ⟨fun n => ?_, fun n => ?_, fun n => ?_, fun n => ?_, fun n => ?_, fun n => ?_, fun n => ?_, fun n => ?_, fun n => ?_, fun n => ?_, fun n => ?_, fun n => ?_⟩ <;> (rw [cell_of (n.fr.at_ h (fun x => x))]; rfl)
/-! ### A task as it lies -/
def TK (w : World) (b : Nat) (k sg_ lim bk dl sp pr_ : Int) (la : Bool) (A : Option Addr) (n c : Nat) (g : Bool × Bool × Int) : Prop :=
  w.heap[b]? = some (.cells #[.int .u8 k, .int .i64 sg_, .int .i64 lim, .int .i64 bk, .int .i64 dl, .int .i64 sp, .int .u8 pr_, .bool la, .slice A n c, .bool g.1, .bool g.2.1, .int .i64 g.2.2] 57 (0, 0))
section
variable {w w' : World} {b : Nat} {k sg_ lim bk dl sp pr_ : Int} {la : Bool} {A : Option Addr} {n c : Nat} {g : Bool × Bool × Int}
theorem TK.fr {S : Nat → Prop} (h : TK w b k sg_ lim bk dl sp pr_ la A n c g) (hf : Fr S w w') (hS : ¬ S b) : TK w' b k sg_ lim bk dl sp pr_ la A n c g := hf.at_ h hS
theorem TK.put (h : TK w b k sg_ lim bk dl sp pr_ la A n c g) (x y : Bool) (z : Int) :
    TK (((w.setCell ⟨b, 9, none⟩ (.bool x)).setCell ⟨b, 10, none⟩ (.bool y)).setCell ⟨b, 11, none⟩ (.int .i64 z)) b k sg_ lim bk dl sp pr_ la A n c (x, y, z) :=
  set_at (set_at (set_at h 9 (.bool x)) 10 (.bool y)) 11 (.int .i64 z)
theorem TK.putF {S : Nat → Prop} {a : World} (h : Fr S a w) (hb : b < a.heap.size → S b) (x y : Bool) (z : Int) :
    Fr S a (((w.setCell ⟨b, 9, none⟩ (.bool x)).setCell ⟨b, 10, none⟩ (.bool y)).setCell ⟨b, 11, none⟩ (.int .i64 z)) :=
  ((h.setCell (p := ⟨b, 9, none⟩) hb _).setCell (p := ⟨b, 10, none⟩) hb _).setCell (p := ⟨b, 11, none⟩) hb _
/-- A time of which a gate may hold. -/
theorem gs_big {g : Bool × Bool × Int} {now : Int} (hg : BigI g.2.2) (hn : BigI now) (i o : Bool) (d : Int) : BigI (gs g now i o d).2.2 := by
  have h0 : BigI 0 := by unfold BigI; omega
  unfold gs
  by_cases e1 : g.1 = true
  · rw [if_pos e1]
    by_cases e2 : o = true
    · rw [if_pos e2]; exact h0
    · rw [if_neg e2]; exact hg
  · rw [if_neg e1]
    by_cases e2 : i = true
    · rw [if_pos e2]
      by_cases e3 : sn now (if g.2.1 = true then g.2.2 else now) ≥ d
      · rw [if_pos e3]; exact h0
      · rw [if_neg e3]
        show BigI (if g.2.1 = true then g.2.2 else now)
        by_cases e4 : g.2.1 = true
        · rw [if_pos e4]; exact hg
        · rw [if_neg e4]; exact hn
    · rw [if_neg e2]; exact h0
set_option maxRecDepth 100000 in
set_option maxHeartbeats 3200000 in
theorem task_new (w : World) (k sg_ lim bk dl sp pr_ : Int) (la : Bool) (A : Option Addr) (n c : Nat) :
    Calls Try.prog 10 #[.agg #[.int .u8 k, .int .i64 sg_, .int .i64 lim, .int .i64 bk, .int .i64 dl, .int .i64 sp, .int .u8 pr_, .bool la, .slice A n c]] w fun e w' => ∃ b, e = .returned (.pointer (some ⟨b, 0, none⟩)) ∧ TK w' b k sg_ lim bk dl sp pr_ la A n c (false, false, 0) ∧ w.heap.size ≤ b ∧ b < w'.heap.size ∧ Fr (fun _ => False) w w' := by
  have B := alloc_is (w := w) (n := w.heap.size) (.cells #[.int .u8 k, .int .i64 sg_, .int .i64 lim, .int .i64 bk, .int .i64 dl, .int .i64 sp, .int .u8 pr_, .bool la, .slice A n c] 27) rfl
  have F := (Fr.refl (fun _ => False) w).alloc (.cells #[.int .u8 k, .int .i64 sg_, .int .i64 lim, .int .i64 bk, .int .i64 dl, .int .i64 sp, .int .u8 pr_, .bool la, .slice A n c] 27)
  generalize hw1 : w.alloc (.cells #[.int .u8 k, .int .i64 sg_, .int .i64 lim, .int .i64 bk, .int .i64 dl, .int .i64 sp, .int .u8 pr_, .bool la, .slice A n c] 27) = w1 at B F
  obtain ⟨c0, c1, c2, c3, c4, c5, c6, c7, c8⟩ := cells9 B
  have B2 := alloc_is (w := w1) (n := w1.heap.size) (.cells #[.int .u8 k, .int .i64 sg_, .int .i64 lim, .int .i64 bk, .int .i64 dl, .int .i64 sp, .int .u8 pr_, .bool la, .slice A n c, .bool false, .bool false, .int .i64 0] 57) rfl
  have F2 := F.alloc (.cells #[.int .u8 k, .int .i64 sg_, .int .i64 lim, .int .i64 bk, .int .i64 dl, .int .i64 sp, .int .u8 pr_, .bool la, .slice A n c, .bool false, .bool false, .int .i64 0] 57)
  have hsz := F.size
  have hlt := lt_of B2
  clear B F
  have HB := Lib.hid B2
  have HF := Lib.hid F2
  clear B2 F2
  go_enter Try.func10, Try.ntmps10
  go_wp2
  go_ret
  exact ⟨_, rfl, HB.out, hsz, hlt, HF.out⟩
set_option maxRecDepth 100000 in
set_option maxHeartbeats 3200000 in
theorem task_gate (h : TK w b k sg_ lim bk dl sp pr_ la A n c g) :
    Calls Try.prog 17 #[.pointer (some ⟨b, 0, none⟩)] w fun e w' => e = .returned (.agg #[.bool g.1, .bool g.2.1, .int .i64 g.2.2]) ∧ Fr (fun _ => False) w w' := by
  obtain ⟨g0, g1, g2⟩ := g
  replace h := TK.fr h ((Fr.refl (fun _ => False) w).alloc (.cells #[.bool false, .bool false, .int .i64 0] 48)) (fun x => x)
  have BG := alloc_is (w := w) (n := w.heap.size) (.cells #[.bool false, .bool false, .int .i64 0] 48) rfl
  have FG := (Fr.refl (fun _ => False) w).alloc (.cells #[.bool false, .bool false, .int .i64 0] 48)
  generalize hw1 : w.alloc (.cells #[.bool false, .bool false, .int .i64 0] 48) = w1 at h BG FG
  have z := fun i => frozen_of BG i
  have z0 := z 0
  have z1 := z 1
  have z2 := z 2
  have B2 := put3 (x' := .bool g0) (y' := .bool g1) (z' := .int .i64 g2) BG
  have F2 := Fr.put3 FG (b := w.heap.size) (fun h => absurd h (Nat.lt_irrefl _)) (.bool g0) (.bool g1) (.int .i64 g2)
  have HB := Lib.hid B2
  have HF := Lib.hid F2
  obtain ⟨k0, k1, k2⟩ := cells3 BG
  clear BG FG B2 F2 z
  obtain ⟨t0, t1, t2, t3, t4, t5, t6, t7, t8, t9, t10, t11⟩ := cells12 h
  clear h t0 t1 t2 t3 t4 t5 t6 t7 t8
  go_enter Try.func17, Try.ntmps17
  go_wp2
  exact ret_c rfl rfl HB.out Try.underlying48 rfl (by kernel_rfl) ⟨rfl, HF.out⟩
set_option maxRecDepth 100000 in
set_option maxHeartbeats 3200000 in
theorem task_gate_nil (w : World) :
    Calls Try.prog 17 #[.pointer none] w fun e w' => e = .returned (.agg #[.bool false, .bool false, .int .i64 0]) ∧ Fr (fun _ => False) w w' := by
  have BG := alloc_is (w := w) (n := w.heap.size) (.cells #[.bool false, .bool false, .int .i64 0] 48) rfl
  have FG := (Fr.refl (fun _ => False) w).alloc (.cells #[.bool false, .bool false, .int .i64 0] 48)
  generalize hw1 : w.alloc (.cells #[.bool false, .bool false, .int .i64 0] 48) = w1 at BG FG
  have z := fun i => frozen_of BG i
  have z0 := z 0
  have z1 := z 1
  have z2 := z 2
  have B2 := put3 (x' := .bool false) (y' := .bool false) (z' := .int .i64 0) BG
  have F2 := Fr.put3 FG (b := w.heap.size) (fun h => absurd h (Nat.lt_irrefl _)) (.bool false) (.bool false) (.int .i64 0)
  have HB := Lib.hid B2
  have HF := Lib.hid F2
  obtain ⟨k0, k1, k2⟩ := cells3 BG
  clear BG FG B2 F2 z
  go_enter Try.func17, Try.ntmps17
  go_wp2
  exact ret_c rfl rfl HB.out Try.underlying48 rfl (by kernel_rfl) ⟨rfl, HF.out⟩
section
attribute [local go_sem] Instr.field part asAgg
set_option maxRecDepth 100000 in
set_option maxHeartbeats 3200000 in
theorem task_on (h : TK w b k sg_ lim bk dl sp pr_ la A n c g) :
    Calls Try.prog 18 #[.pointer (some ⟨b, 0, none⟩)] w fun e w' => e = .returned (.bool g.1) ∧ Fr (fun _ => False) w w' := by
  have HH := Lib.hid h
  clear h
  go_enter Try.func18, Try.ntmps18
  go_wp2_with fail
  refine (task_gate HH.out).mono ?_
  rintro e w1 ⟨rfl, F1⟩
  have HF := Lib.hid F1
  clear F1
  go_wp2
  go_ret
  exact ⟨rfl, HF.out⟩
set_option maxRecDepth 100000 in
set_option maxHeartbeats 3200000 in
theorem task_on_nil (w : World) :
    Calls Try.prog 18 #[.pointer none] w fun e w' => e = .returned (.bool false) ∧ Fr (fun _ => False) w w' := by
  go_enter Try.func18, Try.ntmps18
  go_wp2_with fail
  refine (task_gate_nil w).mono ?_
  rintro e w1 ⟨rfl, F1⟩
  have HF := Lib.hid F1
  clear F1
  go_wp2
  go_ret
  exact ⟨rfl, HF.out⟩
end
set_option maxRecDepth 100000 in
set_option maxHeartbeats 3200000 in
theorem task_run_nil (w : World) (now : Int) (p : Value) :
    Calls Try.prog 16 #[.pointer none, .int .i64 now, p] w fun e w' => e = .returned (.bool false) ∧ Fr (fun _ => False) w w' := by
  have F1 := Fr.refl (fun _ => False) w
  go_enter Try.func16, Try.ntmps16
  go_wp2
  go_ret
  exact ⟨rfl, F1⟩
set_option maxRecDepth 100000 in
set_option maxHeartbeats 3200000 in
theorem task_run_of (h : TK w b k sg_ lim bk dl sp pr_ la A n c g) (hg : BigI g.2.2) {now : Int} (hn : BigI now) {p : Value} {x y : Bool}
    (hO : Calls Try.prog 13 #[.agg #[.int .u8 k, .int .i64 sg_, .int .i64 lim, .int .i64 bk, .int .i64 dl, .int .i64 sp, .int .u8 pr_, .bool la, .slice A n c], p, .int .i64 now] w (CPost w (x, y))) {r : Bool × Bool × Int} (hr : gs g now x y dl = r) :
    Calls Try.prog 16 #[.pointer (some ⟨b, 0, none⟩), .int .i64 now, p] w fun e w' => e = .returned (.bool r.1) ∧ TK w' b k sg_ lim bk dl sp pr_ la A n c r ∧ BigI r.2.2 ∧ Fr (fun k => k = b) w w' := by
  have HBR : Hid (BigI r.2.2) := Lib.hid (by rw [← hr]; exact gs_big hg hn _ _ _)
  obtain ⟨g0, g1, g2⟩ := g
  obtain ⟨r0, r1, r2⟩ := r
  obtain ⟨t0, t1, t2, t3, t4, t5, t6, t7, t8, t9, t10, t11⟩ := cells12 h
  have HH := Lib.hid h
  have HO := Lib.hid hO
  have HR := Lib.hid hr
  have HN := Lib.hid hn
  have HG := Lib.hid hg
  clear h hO hr hn hg t9 t10 t11
  go_enter Try.func16, Try.ntmps16
  go_wp2_with fail
  refine HO.out.mono ?_
  rintro e w1 ⟨rfl, F1⟩
  have h1 := HH.out.fr F1 (fun x => x)
  have z9 : w1.frozen? ⟨b, 9, none⟩ = false := frozen_of h1 9
  clear t0 t1 t2 t3 t4 t5 t6 t7 t8
  obtain ⟨n0, n1, n2, n3, n4, n5, n6, n7, n8, n9, n10, n11⟩ := Calm.cells12 h1
  have HQ := Lib.hid (fun n : Calm w1 => step_any n.to g0 g1 g2 now x y dl HG.out HN.out)
  rw [HR.out] at HQ
  have HF1 := Lib.hid F1
  have HH1 := Lib.hid h1
  clear F1 h1
  clear n0 n1 n2 n3 n5 n6 n7 n8
  go_wp2_with fail
  (refine wp_region_calm_tail 14 (by kernel_rfl) (by kernel_rfl) ?_; simp only [List.take_succ_cons, List.take_zero, List.drop_succ_cons, List.drop_zero]; (repeat (go_big_quiet_step ((go_at_call 35; exact Calm.of (v := .agg #[.bool r0, .bool r1, .int .i64 r2]) (HQ.out _))))); refine wpQuiet_nil ?_; intro _ hwq0; obtain ⟨nq, hwq1⟩ := hwq0; subst hwq1)
  have F2 := nq.fr
  generalize nq.to = w2 at F2 ⊢
  have h2 := HH1.out.fr F2 (fun x => x)
  have zf : ∀ i, w2.frozen? ⟨b, i, none⟩ = false := fun i => frozen_of h2 i
  have y9 := zf 9
  have y10 := zf 10
  have y11 := zf 11
  obtain ⟨s0, s1, s2, s3, s4, s5, s6, s7, s8, s9, s10, s11⟩ := cells12 h2
  clear s0 s1 s2 s3 s4 s5 s6 s7 s8
  have h3 := h2.put r0 r1 r2
  obtain ⟨u0, u1, u2, u3, u4, u5, u6, u7, u8, u9, u10, u11⟩ := cells12 h3
  have HH3 := Lib.hid h3
  have F3 := TK.putF (b := b) (((HF1.out.trans F2 (fun _ _ h => h)).mono (S' := fun k => k = b) (fun _ _ x => x.elim))) (fun _ => rfl) r0 r1 r2
  have HF3 := Lib.hid F3
  clear F3 h3 h2 F2 zf z9 n4 n9 n10 n11 u0 u1 u2 u3 u4 u5 u6 u7 u8 u10 u11
  go_wp2
  go_ret
  exact ⟨rfl, HH3.out, HBR.out, HF3.out⟩
end

end Go.Proofs.Ytbmhgkajjjiniaa
