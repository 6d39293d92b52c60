/- LCl. -/
import Derived.Test.YtmjdiadpdbdedaaChecked
import Derived.WalkKit
import Derived.Laws.IdiomCopy
import Derived.Deep.QuietTactic
import Derived.BigQuiet
import Derived.Lib.Hide
import Derived.OpenShut
import Derived.StillTailTactics
import Derived.Deep.RegionWith
import Derived.Deep.RegionLaw
import Derived.Test.YtmjdiadpdbdedaaBase
import Derived.Test.YtmjdiadpdbdedaaCalm
import Derived.Test.YtmjdiadpdbdedaaCalmT
import Derived.Test.YtmjdiadpdbdedaaLf
import Derived.Test.YtmjdiadpdbdedaaLa
import Derived.Test.YtmjdiadpdbdedaaLaR
import Derived.Test.YtmjdiadpdbdedaaLaU
import Derived.Test.YtmjdiadpdbdedaaLaP
import Derived.Test.YtmjdiadpdbdedaaLaK
import Derived.Test.YtmjdiadpdbdedaaLaC
namespace Go.Proofs.Ytmjdiadpdbdedaa
open Go.RowKit
set_option linter.unusedVariables false
set_option linter.unusedSimpArgs false

theorem put5y {w : World} {b : Nat} {x0 x1 x2 x3 x4 y0 y1 y2 y3 y4 : Value} {t : TypeId} (h : w.heap[b]? = some (.cells #[x0, x1, x2, x3, x4] t (0, 0))) :
    (((((w.setCell ⟨b, 0, none⟩ y0).setCell ⟨b, 1, none⟩ y1).setCell ⟨b, 2, none⟩ y2).setCell ⟨b, 3, none⟩ y3).setCell ⟨b, 4, none⟩ y4).heap[b]? = some (.cells #[y0, y1, y2, y3, y4] t (0, 0)) := by
  have h0 : (World.setCell w ⟨b, 0, none⟩ y0).heap[b]? = some (.cells #[y0, x1, x2, x3, x4] t (0, 0)) := set_at h 0 y0
  generalize World.setCell w ⟨b, 0, none⟩ y0 = w0 at h0 ⊢
  have h1 : (World.setCell w0 ⟨b, 1, none⟩ y1).heap[b]? = some (.cells #[y0, y1, x2, x3, x4] t (0, 0)) := set_at h0 1 y1
  generalize World.setCell w0 ⟨b, 1, none⟩ y1 = w1 at h1 ⊢
  have h2 : (World.setCell w1 ⟨b, 2, none⟩ y2).heap[b]? = some (.cells #[y0, y1, y2, x3, x4] t (0, 0)) := set_at h1 2 y2
  generalize World.setCell w1 ⟨b, 2, none⟩ y2 = w2 at h2 ⊢
  have h3 : (World.setCell w2 ⟨b, 3, none⟩ y3).heap[b]? = some (.cells #[y0, y1, y2, y3, x4] t (0, 0)) := set_at h2 3 y3
  generalize World.setCell w2 ⟨b, 3, none⟩ y3 = w3 at h3 ⊢
  have h4 : (World.setCell w3 ⟨b, 4, none⟩ y4).heap[b]? = some (.cells #[y0, y1, y2, y3, y4] t (0, 0)) := set_at h3 4 y4
  exact h4
theorem Fr.put5y {S : Nat → Prop} {a w : World} (h : Fr S a w) {b : Nat} (hb : b < a.heap.size → S b) (y0 y1 y2 y3 y4 : Value) :
    Fr S a (((((w.setCell ⟨b, 0, none⟩ y0).setCell ⟨b, 1, none⟩ y1).setCell ⟨b, 2, none⟩ y2).setCell ⟨b, 3, none⟩ y3).setCell ⟨b, 4, none⟩ y4) := by
  have h0 := h.setCell (p := ⟨b, 0, none⟩) hb y0
  have h1 := h0.setCell (p := ⟨b, 1, none⟩) hb y1
  have h2 := h1.setCell (p := ⟨b, 2, none⟩) hb y2
  have h3 := h2.setCell (p := ⟨b, 3, none⟩) hb y3
  have h4 := h3.setCell (p := ⟨b, 4, none⟩) hb y4
  exact h4

set_option maxRecDepth 100000 in
set_option maxHeartbeats 6400000 in
theorem LadderClimbs_walk (p0 : Int) (A : Option Addr) (n cap : Nat) (zs : List Int) (on lit acked : Bool) (s now k : Int) (W : World) (w0 : (Lit.int .u8 p0).wf = true) (hr : Reads EWt W A n zs) (hw : ∀ y, y ∈ zs → (Lit.int .u16 y).wf = true) (hcap : n ≤ cap ∧ cap ≤ maxLen) (ws : (Lit.int .i64 s).wf = true) (wn : (Lit.int .i64 now).wf = true) (wk : (Lit.int .u8 k).wf = true) :
    Calls Try.prog 11 #[.int .u8 p0, .slice A n cap, .bool on, .bool lit, .bool acked, .int .i64 s, .int .i64 now, .int .u8 k] W fun e w' => e = .returned (.bool true) ∧ Below W.heap.size W w' := by
  have bs : BigI s := bounds_i64 ws
  have bn : BigI now := bounds_i64 wn
  have HS := Lib.hid bs
  have HN := Lib.hid bn
  have hk := bounds_u8 wk
  clear ws wn wk bs bn
  by_cases hn : n ≤ 8
  · have e0 : ¬ (8 : Int) < (n : Int) := by omega
    go_enter Try.func11, Try.ntmps11
    go_wp2_with fail
    refine (steps_any _).mono ?_
    rintro e w1 ⟨rfl, F1⟩
    go_wp2_with fail
    refine (rule_reads _ p0 A n cap zs w0 (hr.fr F1 (fun _ _ x => x)) hw hn).mono ?_
    rintro e w2 ⟨p, m, c, A2, xs, rfl, hm, hmc, HR, r2, hA2, F2, hp1, hp3⟩
    have hm4 : m ≤ 4 := by omega
    have HM := Lib.hid hm
    clear hm
    have Bz3 : (w2.alloc (.cells #[.int .u8 0, .int .i64 0, .int .i64 0, .int .i64 0, .int .i64 0, .int .i64 0, .int .u8 0, .bool false, .slice none 0 0] 26)).heap[w2.heap.size]? = some (.cells #[.int .u8 0, .int .i64 0, .int .i64 0, .int .i64 0, .int .i64 0, .int .i64 0, .int .u8 0, .bool false, .slice none 0 0] 26 (0, 0)) := alloc_is _ rfl
    have Fz3 := (Fr.refl (fun _ => False) w2).alloc (.cells #[.int .u8 0, .int .i64 0, .int .i64 0, .int .i64 0, .int .i64 0, .int .i64 0, .int .u8 0, .bool false, .slice none 0 0] 26)
    generalize hwm3 : w2.alloc (.cells #[.int .u8 0, .int .i64 0, .int .i64 0, .int .i64 0, .int .i64 0, .int .i64 0, .int .u8 0, .bool false, .slice none 0 0] 26) = wm3 at Bz3 Fz3
    obtain ⟨c3_0, c3_1, c3_2, c3_3, c3_4, c3_5, c3_6, c3_7, c3_8⟩ := cells9 Bz3
    have z3_0 := frozen_of Bz3 0
    have z3_1 := frozen_of Bz3 1
    have z3_2 := frozen_of Bz3 2
    have z3_3 := frozen_of Bz3 3
    have z3_4 := frozen_of Bz3 4
    have z3_5 := frozen_of Bz3 5
    have z3_6 := frozen_of Bz3 6
    have z3_7 := frozen_of Bz3 7
    have z3_8 := frozen_of Bz3 8
    have B3 := put9 (y0 := .int .u8 0) (y1 := .int .i64 0) (y2 := .int .i64 0) (y3 := .int .i64 0) (y4 := .int .i64 0) (y5 := .int .i64 0) (y6 := .int .u8 p) (y7 := .bool false) (y8 := .slice A2 m c) Bz3
    have Fo3 := (Fr.refl (fun i => i = w2.heap.size) wm3).put9 (b := w2.heap.size) (fun _ => rfl) (.int .u8 0) (.int .i64 0) (.int .i64 0) (.int .i64 0) (.int .i64 0) (.int .i64 0) (.int .u8 p) (.bool false) (.slice A2 m c)
    generalize hwo3 : (((((((((wm3.setCell ⟨w2.heap.size, 0, none⟩ (.int .u8 0)).setCell ⟨w2.heap.size, 1, none⟩ (.int .i64 0)).setCell ⟨w2.heap.size, 2, none⟩ (.int .i64 0)).setCell ⟨w2.heap.size, 3, none⟩ (.int .i64 0)).setCell ⟨w2.heap.size, 4, none⟩ (.int .i64 0)).setCell ⟨w2.heap.size, 5, none⟩ (.int .i64 0)).setCell ⟨w2.heap.size, 6, none⟩ (.int .u8 p)).setCell ⟨w2.heap.size, 7, none⟩ (.bool false)).setCell ⟨w2.heap.size, 8, none⟩ (.slice A2 m c)) = wo3 at B3 Fo3
    have FF3 := Fz3.trans Fo3 (fun i hi (h : i = w2.heap.size) => by omega)
    obtain ⟨d3_0, d3_1, d3_2, d3_3, d3_4, d3_5, d3_6, d3_7, d3_8⟩ := cells9 B3
    have r3 : Reads ESt wo3 A2 m xs := r2.fr FF3 (fun _ _ x => x)
    have FW3 := (F1.step F2 nop).step FF3 nop
    go_wp2_with fail
    have HRC := Lib.hid (fun (w' : World) (hh : Reads ESt w' A2 m xs) => rclimb_any w' p A2 m c xs on lit acked s (k % 6) now hh (by omega) HR.waits HS.out HN.out)
    refine (climb_any _ p A2 m c xs on lit acked s (k % 6) now r3 (by omega) hmc HR.waits HS.out HN.out).mono ?_
    rintro e w5 ⟨rfl, F5⟩
    have B5 := F5.at_ B3 (fun x => x)
    have r5 := r3.fr F5 (fun _ _ x => x)
    have FW5 := FW3.step F5 nop
    clear c3_0 z3_0 c3_1 z3_1 c3_2 z3_2 c3_3 z3_3 c3_4 z3_4 c3_5 z3_5 c3_6 z3_6 c3_7 z3_7 c3_8 z3_8 d3_0 d3_1 d3_2 d3_3 d3_4 d3_5 d3_6 d3_7 d3_8 Bz3 Fz3 Fo3 hwm3 hwo3
    clear F1 F2 FF3 F5 B3 r2 r3 FW3 hA2
    generalize clb xs (on, lit, acked, s, k % 6) now = cl at HRC ⊢
    obtain ⟨x1, x2, x3, x4, x5⟩ := cl
    simp only [lv] at HRC ⊢
    have Bz6 : (w5.alloc (.cells #[.bool false, .bool false, .bool false, .int .i64 0, .int .i64 0] 36)).heap[w5.heap.size]? = some (.cells #[.bool false, .bool false, .bool false, .int .i64 0, .int .i64 0] 36 (0, 0)) := alloc_is _ rfl
    have Fz6 := (Fr.refl (fun _ => False) w5).alloc (.cells #[.bool false, .bool false, .bool false, .int .i64 0, .int .i64 0] 36)
    generalize hwm6 : w5.alloc (.cells #[.bool false, .bool false, .bool false, .int .i64 0, .int .i64 0] 36) = wm6 at Bz6 Fz6
    obtain ⟨c6_0, c6_1, c6_2, c6_3, c6_4⟩ := cells5 Bz6
    have z6_0 := frozen_of Bz6 0
    have z6_1 := frozen_of Bz6 1
    have z6_2 := frozen_of Bz6 2
    have z6_3 := frozen_of Bz6 3
    have z6_4 := frozen_of Bz6 4
    have B6 := put5y (y0 := .bool x1) (y1 := .bool x2) (y2 := .bool x3) (y3 := .int .i64 x4) (y4 := .int .i64 x5) Bz6
    have Fo6 := (Fr.refl (fun i => i = w5.heap.size) wm6).put5 (b := w5.heap.size) (fun _ => rfl) (.bool x1) (.bool x2) (.bool x3) (.int .i64 x4) (.int .i64 x5)
    generalize hwo6 : (((((wm6.setCell ⟨w5.heap.size, 0, none⟩ (.bool x1)).setCell ⟨w5.heap.size, 1, none⟩ (.bool x2)).setCell ⟨w5.heap.size, 2, none⟩ (.bool x3)).setCell ⟨w5.heap.size, 3, none⟩ (.int .i64 x4)).setCell ⟨w5.heap.size, 4, none⟩ (.int .i64 x5)) = wo6 at B6 Fo6
    have FF6 := Fz6.trans Fo6 (fun i hi (h : i = w5.heap.size) => by omega)
    obtain ⟨d6_0, d6_1, d6_2, d6_3, d6_4⟩ := cells5 B6
    have B36 := FF6.at_ B5 (fun x => x)
    have r6 := r5.fr FF6 (fun _ _ x => x)
    have FW6 := FW5.step FF6 nop
    obtain ⟨g0, g1, g2, g3, g4, g5, g6, g7, g8⟩ := cells9 B36
    go_wp2_with fail
    refine (HRC.out _ r6).mono ?_
    rintro e w7 ⟨rfl, F7⟩
    have B67 := F7.at_ B6 (fun x => x)
    have FW7 := FW6.step F7 nop
    clear c6_0 z6_0 c6_1 z6_1 c6_2 z6_2 c6_3 z6_3 c6_4 z6_4 d6_0 d6_1 d6_2 d6_3 d6_4 Bz6 Fz6 Fo6 hwm6 hwo6
    clear g0 g1 g2 g3 g4 g5 g6 g7 g8 B36 r6 FW6 F7 B6 FF6 B5 r5 FW5
    simp only [lv]
    have Bz8 : (w7.alloc (.cells #[.bool false, .bool false, .bool false, .int .i64 0, .int .i64 0] 42)).heap[w7.heap.size]? = some (.cells #[.bool false, .bool false, .bool false, .int .i64 0, .int .i64 0] 42 (0, 0)) := alloc_is _ rfl
    have Fz8 := (Fr.refl (fun _ => False) w7).alloc (.cells #[.bool false, .bool false, .bool false, .int .i64 0, .int .i64 0] 42)
    generalize hwm8 : w7.alloc (.cells #[.bool false, .bool false, .bool false, .int .i64 0, .int .i64 0] 42) = wm8 at Bz8 Fz8
    obtain ⟨c8_0, c8_1, c8_2, c8_3, c8_4⟩ := cells5 Bz8
    have z8_0 := frozen_of Bz8 0
    have z8_1 := frozen_of Bz8 1
    have z8_2 := frozen_of Bz8 2
    have z8_3 := frozen_of Bz8 3
    have z8_4 := frozen_of Bz8 4
    have B8 := put5y (y0 := .bool x1) (y1 := .bool x2) (y2 := .bool x3) (y3 := .int .i64 x4) (y4 := .int .i64 x5) Bz8
    have Fo8 := (Fr.refl (fun i => i = w7.heap.size) wm8).put5 (b := w7.heap.size) (fun _ => rfl) (.bool x1) (.bool x2) (.bool x3) (.int .i64 x4) (.int .i64 x5)
    generalize hwo8 : (((((wm8.setCell ⟨w7.heap.size, 0, none⟩ (.bool x1)).setCell ⟨w7.heap.size, 1, none⟩ (.bool x2)).setCell ⟨w7.heap.size, 2, none⟩ (.bool x3)).setCell ⟨w7.heap.size, 3, none⟩ (.int .i64 x4)).setCell ⟨w7.heap.size, 4, none⟩ (.int .i64 x5)) = wo8 at B8 Fo8
    have FF8 := Fz8.trans Fo8 (fun i hi (h : i = w7.heap.size) => by omega)
    obtain ⟨d8_0, d8_1, d8_2, d8_3, d8_4⟩ := cells5 B8
    have B68 := FF8.at_ B67 (fun x => x)
    have FW8 := Lib.hid (FW7.step FF8 nop)
    obtain ⟨g0, g1, g2, g3, g4⟩ := cells5 B68
    clear B67 FW7 FF8
    go_wp2
    go_ret
    exact ⟨rfl, FW8.out.below⟩
  · have e0 : (8 : Int) < (n : Int) := by omega
    go_enter Try.func11, Try.ntmps11
    go_wp2_with fail
    refine (steps_any _).mono ?_
    rintro e w1 ⟨rfl, F1⟩
    go_wp2_with fail
    refine (steps_any _).mono ?_
    rintro e w2 ⟨rfl, F2⟩
    go_wp2
    go_ret
    exact ⟨rfl, (F1.step F2 nop).below⟩

end Go.Proofs.Ytmjdiadpdbdedaa
