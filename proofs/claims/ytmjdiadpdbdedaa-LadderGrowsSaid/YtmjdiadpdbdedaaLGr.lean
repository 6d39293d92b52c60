/- LGr. -/
import Derived.Test.YtmjdiadpdbdedaaChecked
import Derived.WalkKit
import Derived.Laws.IdiomCopy
import Derived.Deep.QuietTactic
import Derived.BigQuiet
import Derived.Lib.Hide
import Derived.OpenShut
import Derived.StillTailTactics
import Derived.Deep.RegionWith
import Derived.Deep.RegionLaw
import Derived.Test.YtmjdiadpdbdedaaBase
import Derived.Test.YtmjdiadpdbdedaaCalm
import Derived.Test.YtmjdiadpdbdedaaCalmT
import Derived.Test.YtmjdiadpdbdedaaLf
import Derived.Test.YtmjdiadpdbdedaaLa
import Derived.Test.YtmjdiadpdbdedaaLaR
import Derived.Test.YtmjdiadpdbdedaaLaU
import Derived.Test.YtmjdiadpdbdedaaLaP
import Derived.Test.YtmjdiadpdbdedaaLaK
import Derived.Test.YtmjdiadpdbdedaaLaC
namespace Go.Proofs.Ytmjdiadpdbdedaa
open Go.RowKit
set_option linter.unusedVariables false
set_option linter.unusedSimpArgs false

theorem put5y {w : World} {b : Nat} {x0 x1 x2 x3 x4 y0 y1 y2 y3 y4 : Value} {t : TypeId} (h : w.heap[b]? = some (.cells #[x0, x1, x2, x3, x4] t (0, 0))) :
    (((((w.setCell ⟨b, 0, none⟩ y0).setCell ⟨b, 1, none⟩ y1).setCell ⟨b, 2, none⟩ y2).setCell ⟨b, 3, none⟩ y3).setCell ⟨b, 4, none⟩ y4).heap[b]? = some (.cells #[y0, y1, y2, y3, y4] t (0, 0)) := by
  have h0 : (World.setCell w ⟨b, 0, none⟩ y0).heap[b]? = some (.cells #[y0, x1, x2, x3, x4] t (0, 0)) := set_at h 0 y0
  generalize World.setCell w ⟨b, 0, none⟩ y0 = w0 at h0 ⊢
  have h1 : (World.setCell w0 ⟨b, 1, none⟩ y1).heap[b]? = some (.cells #[y0, y1, x2, x3, x4] t (0, 0)) := set_at h0 1 y1
  generalize World.setCell w0 ⟨b, 1, none⟩ y1 = w1 at h1 ⊢
  have h2 : (World.setCell w1 ⟨b, 2, none⟩ y2).heap[b]? = some (.cells #[y0, y1, y2, x3, x4] t (0, 0)) := set_at h1 2 y2
  generalize World.setCell w1 ⟨b, 2, none⟩ y2 = w2 at h2 ⊢
  have h3 : (World.setCell w2 ⟨b, 3, none⟩ y3).heap[b]? = some (.cells #[y0, y1, y2, y3, x4] t (0, 0)) := set_at h2 3 y3
  generalize World.setCell w2 ⟨b, 3, none⟩ y3 = w3 at h3 ⊢
  have h4 : (World.setCell w3 ⟨b, 4, none⟩ y4).heap[b]? = some (.cells #[y0, y1, y2, y3, y4] t (0, 0)) := set_at h3 4 y4
  exact h4
theorem Fr.put5y {S : Nat → Prop} {a w : World} (h : Fr S a w) {b : Nat} (hb : b < a.heap.size → S b) (y0 y1 y2 y3 y4 : Value) :
    Fr S a (((((w.setCell ⟨b, 0, none⟩ y0).setCell ⟨b, 1, none⟩ y1).setCell ⟨b, 2, none⟩ y2).setCell ⟨b, 3, none⟩ y3).setCell ⟨b, 4, none⟩ y4) := by
  have h0 := h.setCell (p := ⟨b, 0, none⟩) hb y0
  have h1 := h0.setCell (p := ⟨b, 1, none⟩) hb y1
  have h2 := h1.setCell (p := ⟨b, 2, none⟩) hb y2
  have h3 := h2.setCell (p := ⟨b, 3, none⟩) hb y3
  have h4 := h3.setCell (p := ⟨b, 4, none⟩) hb y4
  exact h4

def SmRel (W : World) (n : Nat) (v i : Value) (wr : World) : Prop :=
  ∃ (k : Nat) (ys : List Int), k ≤ n ∧ i = .int .i64 k ∧ ys.length = k ∧ (∀ y, y ∈ ys → (Lit.int .u16 y).wf = true) ∧ Own EWt 34 wr W.heap.size v ys ∧ Fr (fun _ => False) W wr
def GrRel (W : World) (bR bL : Nat) (p : Int) (A : Option Addr) (m c : Nat) (xs : List (Int × Int)) (a : Int) (l i : Value) (wr : World) : Prop :=
  ∃ (j st : Nat) (kd : Bool), i = .int .i64 ((j : Int) + 1) ∧ l = .int .i64 st ∧ j ≤ 59 ∧ st ≤ 4 ∧ (kd = false → st = rc xs ((j : Int) - 1)) ∧ (kd = true ∨ ¬ (1 ≤ a ∧ a ≤ (j : Int))) ∧
    wr.heap[bR]? = some (.cells #[.int .u8 0, .int .i64 0, .int .i64 0, .int .i64 0, .int .i64 0, .int .i64 0, .int .u8 p, .bool false, .slice A m c] 26 (0, 0)) ∧
    wr.heap[bL]? = some (.cells #[.bool true, .bool true, .bool kd, .int .i64 1, .int .i64 st] 36 (0, 0)) ∧ Reads ESt wr A m xs ∧ Fr (fun _ => False) W wr
theorem infoWt : (Try.prog.info? 34).map (fun i => (i.zero, i.size, i.bytes)) = some (some (.int .u16 0), 1, 2) := by kernel_rfl
theorem sn_one (j : Nat) : sn ((j : Int) + 1) 1 = (j : Int) ∨ 1099511627776 < (j : Int) := by unfold sn; split <;> (try split) <;> omega
theorem clb_acked (xs : List (Int × Int)) (st now : Int) : clb xs (true, true, true, 1, st) now = (true, true, true, 1, st) := rfl
theorem clb_grow {p : Int} {xs : List (Int × Int)} (h : Rl p xs) (j : Nat) (hj : j ≤ 59) : clb xs (true, true, false, 1, ((rc xs ((j : Int) - 1) : Nat) : Int)) ((j : Int) + 1) = (true, true, false, 1, ((rc xs (j : Int) : Nat) : Int)) := by
  have h1 : sn ((j : Int) + 1) 1 = (j : Int) := by rcases sn_one j with h | h; exact h; omega
  have h2 := rc_mono h.waits (show (j : Int) - 1 ≤ (j : Int) by omega)
  show (true, true, false, (1 : Int), max ((rc xs ((j : Int) - 1) : Nat) : Int) ((rc xs (sn ((j : Int) + 1) 1) : Nat) : Int)) = _
  rw [h1, show max ((rc xs ((j : Int) - 1) : Nat) : Int) ((rc xs (j : Int) : Nat) : Int) = ((rc xs (j : Int) : Nat) : Int) from by omega]
set_option maxRecDepth 100000 in
set_option maxHeartbeats 6400000 in
theorem LadderGrows_walk (p0 : Int) (A : Option Addr) (n cap : Nat) (zs : List Int) (k : Int) (W : World) (w0 : (Lit.int .u8 p0).wf = true) (hr : Reads EWt W A n zs) (hw : ∀ y, y ∈ zs → (Lit.int .u16 y).wf = true) (hcap : n ≤ cap ∧ cap ≤ maxLen) (wk : (Lit.int .u8 k).wf = true) :
    Calls Try.prog 12 #[.int .u8 p0, .slice A n cap, .int .u8 k] W fun e w' => e = .returned (.bool true) ∧ Below W.heap.size W w' := by
  have hk := bounds_u8 wk
  clear wk
  by_cases hn : n ≤ 8
  · have e0 : ¬ (8 : Int) < (n : Int) := by omega
    have HL := Lib.hid hr.1
    have HZ := Lib.hid hw
    obtain ⟨i0, hi, hz0, hz1, hz2⟩ := info_parts infoWt
    go_enter Try.func12, Try.ntmps12
    go_wp2_with fail
    refine (steps_any _).mono ?_
    rintro e w1 ⟨rfl, F1⟩
    go_wp2_with fail
    go_loopw [7, 8] (fun v i wr => SmRel W n v i wr) (fun _ i _ => n - (intOf i).toNat)
    case atStart => exact ⟨0, [], Nat.zero_le _, rfl, rfl, fun y hy => by simp at hy, Own.nil _ _ _ _, F1⟩
    case round =>
      obtain ⟨q, ys, hq, rfl, hyl, hyw, hown, Fq⟩ := hrel
      have HYL := Lib.hid hyl
      have HYW := Lib.hid hyw
      clear hyl hyw
      by_cases hlt : q < n
      · obtain ⟨b, o, rfl, hbw⟩ := hr.plain (by omega)
        have l0 := (hr.fr Fq (fun _ _ x => x)).wt hlt
        have hx := bounds_u16 (HZ.out (zs.getD q EWt.z) (by have := HL.out; simp [List.getD_eq_getElem?_getD, this, hlt]))
        generalize zs.getD q EWt.z = x at l0 hx
        have h3 : (q : Int) < (n : Int) := by omega
        have hx9 : 0 ≤ x % 9 ∧ x % 9 ≤ 8 := by omega
        go_wp2_with (at_builtin; refine append_one EWt 34 rfl _ _ 22 rfl i0 _ 2 Try.underlying22 hi hz0 hz1 hz2 rfl W.heap.size _ _ rfl (hown.alloc _) ⟨wr.heap.size, 0, none⟩ 1 (x % 9) rfl ?c1 ?c2 ?c3 ?c4 ?c5 ?_)
        case c1 => exact lit_cells (W := wr) (cs := [.int .u16 (x % 9)]) rfl
        case c2 => intro u hu; simp [EWt] at hu; subst hu; rfl
        case c3 => rw [HYL.out]; unfold maxLen; omega
        case c4 => rw [HYL.out]; omega
        case c5 => have := Fq.size; simp; omega
        intro v' w3 hown' hgrow
        have F3 : Fr (fun _ => False) W w3 := (Fq.alloc _).grown hgrow (fun k hk => (hown.blk k hk).1)
        have HN : Hid (∀ y, y ∈ ys ++ [x % 9] → (Lit.int .u16 y).wf = true) := Lib.hid (fun y hy => by
          rcases List.mem_append.1 hy with h | h
          · exact HYW.out y h
          · simp at h; subst h; exact WalkArith.wf_u16 ⟨by omega, by omega⟩)
        clear hown hgrow Fq l0
        go_wp2
        go_roundw
        case rel => exact ⟨q + 1, ys ++ [x % 9], by omega, by go_num, by rw [List.length_append, HYL.out]; rfl, HN.out, hown', F3⟩
        case measure => simp [intOf]; omega
      · obtain rfl : n = q := by omega
        obtain ⟨A1, c1, rfl, ry, hA1⟩ := hown.reads
        rw [HYL.out] at ry
        clear hown hA1 F1
        go_wp2_with fail
        rw [HYL.out]
        refine (rule_reads _ p0 A1 n c1 ys w0 ry HYW.out hn).mono ?_
        rintro e w2 ⟨p, m, c, A2, xs, rfl, hm, hmc, HR, r2, hA2, F2, hp1, hp3⟩
        have hm8 : m ≤ 8 := by omega
        have HXL := Lib.hid r2.1
        clear hm HYL HYW ry hlt hp1 hp3
        have Bz3 : (w2.alloc (.cells #[.int .u8 0, .int .i64 0, .int .i64 0, .int .i64 0, .int .i64 0, .int .i64 0, .int .u8 0, .bool false, .slice none 0 0] 26)).heap[w2.heap.size]? = some (.cells #[.int .u8 0, .int .i64 0, .int .i64 0, .int .i64 0, .int .i64 0, .int .i64 0, .int .u8 0, .bool false, .slice none 0 0] 26 (0, 0)) := alloc_is _ rfl
        have Fz3 := (Fr.refl (fun _ => False) w2).alloc (.cells #[.int .u8 0, .int .i64 0, .int .i64 0, .int .i64 0, .int .i64 0, .int .i64 0, .int .u8 0, .bool false, .slice none 0 0] 26)
        generalize hwm3 : w2.alloc (.cells #[.int .u8 0, .int .i64 0, .int .i64 0, .int .i64 0, .int .i64 0, .int .i64 0, .int .u8 0, .bool false, .slice none 0 0] 26) = wm3 at Bz3 Fz3
        obtain ⟨c3_0, c3_1, c3_2, c3_3, c3_4, c3_5, c3_6, c3_7, c3_8⟩ := cells9 Bz3
        have z3_0 := frozen_of Bz3 0
        have z3_1 := frozen_of Bz3 1
        have z3_2 := frozen_of Bz3 2
        have z3_3 := frozen_of Bz3 3
        have z3_4 := frozen_of Bz3 4
        have z3_5 := frozen_of Bz3 5
        have z3_6 := frozen_of Bz3 6
        have z3_7 := frozen_of Bz3 7
        have z3_8 := frozen_of Bz3 8
        have B3 := put9 (y0 := .int .u8 0) (y1 := .int .i64 0) (y2 := .int .i64 0) (y3 := .int .i64 0) (y4 := .int .i64 0) (y5 := .int .i64 0) (y6 := .int .u8 p) (y7 := .bool false) (y8 := .slice A2 m c) Bz3
        have Fo3 := (Fr.refl (fun i => i = w2.heap.size) wm3).put9 (b := w2.heap.size) (fun _ => rfl) (.int .u8 0) (.int .i64 0) (.int .i64 0) (.int .i64 0) (.int .i64 0) (.int .i64 0) (.int .u8 p) (.bool false) (.slice A2 m c)
        generalize hwo3 : (((((((((wm3.setCell ⟨w2.heap.size, 0, none⟩ (.int .u8 0)).setCell ⟨w2.heap.size, 1, none⟩ (.int .i64 0)).setCell ⟨w2.heap.size, 2, none⟩ (.int .i64 0)).setCell ⟨w2.heap.size, 3, none⟩ (.int .i64 0)).setCell ⟨w2.heap.size, 4, none⟩ (.int .i64 0)).setCell ⟨w2.heap.size, 5, none⟩ (.int .i64 0)).setCell ⟨w2.heap.size, 6, none⟩ (.int .u8 p)).setCell ⟨w2.heap.size, 7, none⟩ (.bool false)).setCell ⟨w2.heap.size, 8, none⟩ (.slice A2 m c)) = wo3 at B3 Fo3
        have FF3 := Fz3.trans Fo3 (fun i hi (h : i = w2.heap.size) => by omega)
        obtain ⟨d3_0, d3_1, d3_2, d3_3, d3_4, d3_5, d3_6, d3_7, d3_8⟩ := cells9 B3
        have r3 : Reads ESt wo3 A2 m xs := r2.fr FF3 (fun _ _ x => x)
        have FW3 := (Fq.step F2 nop).step FF3 nop
        have hbR : W.heap.size ≤ w2.heap.size := (Fq.step F2 nop).size
        have hbL : W.heap.size ≤ wo3.heap.size := FW3.size
        have hne : w2.heap.size ≠ wo3.heap.size := by have := lt_of B3; omega
        have Bz4 : (wo3.alloc (.cells #[.bool false, .bool false, .bool false, .int .i64 0, .int .i64 0] 36)).heap[wo3.heap.size]? = some (.cells #[.bool false, .bool false, .bool false, .int .i64 0, .int .i64 0] 36 (0, 0)) := alloc_is _ rfl
        have Fz4 := (Fr.refl (fun _ => False) wo3).alloc (.cells #[.bool false, .bool false, .bool false, .int .i64 0, .int .i64 0] 36)
        generalize hwm4 : wo3.alloc (.cells #[.bool false, .bool false, .bool false, .int .i64 0, .int .i64 0] 36) = wm4 at Bz4 Fz4
        obtain ⟨c4_0, c4_1, c4_2, c4_3, c4_4⟩ := cells5 Bz4
        have z4_0 := frozen_of Bz4 0
        have z4_1 := frozen_of Bz4 1
        have z4_2 := frozen_of Bz4 2
        have z4_3 := frozen_of Bz4 3
        have z4_4 := frozen_of Bz4 4
        have B4 := put5y (y0 := .bool true) (y1 := .bool true) (y2 := .bool false) (y3 := .int .i64 1) (y4 := .int .i64 0) Bz4
        have Fo4 := (Fr.refl (fun i => i = wo3.heap.size) wm4).put5 (b := wo3.heap.size) (fun _ => rfl) (.bool true) (.bool true) (.bool false) (.int .i64 1) (.int .i64 0)
        generalize hwo4 : (((((wm4.setCell ⟨wo3.heap.size, 0, none⟩ (.bool true)).setCell ⟨wo3.heap.size, 1, none⟩ (.bool true)).setCell ⟨wo3.heap.size, 2, none⟩ (.bool false)).setCell ⟨wo3.heap.size, 3, none⟩ (.int .i64 1)).setCell ⟨wo3.heap.size, 4, none⟩ (.int .i64 0)) = wo4 at B4 Fo4
        have FF4 := Fz4.trans Fo4 (fun i hi (h : i = wo3.heap.size) => by omega)
        obtain ⟨d4_0, d4_1, d4_2, d4_3, d4_4⟩ := cells5 B4
        have r4 : Reads ESt wo4 A2 m xs := r3.fr FF4 (fun _ _ x => x)
        have FW4 := FW3.step FF4 nop
        have B34 := FF4.at_ B3 (fun x => x)
        have HAB : Hid (∀ ad, A2 = some ad → ad.block ≠ wo3.heap.size) := Lib.hid (fun ad h => by have := hA2 ad h; have := lt_of B3; omega)
        go_wp2_with fail
        clear c3_0 z3_0 c3_1 z3_1 c3_2 z3_2 c3_3 z3_3 c3_4 z3_4 c3_5 z3_5 c3_6 z3_6 c3_7 z3_7 c3_8 z3_8 d3_0 d3_1 d3_2 d3_3 d3_4 d3_5 d3_6 d3_7 d3_8 Bz3 Fz3 Fo3 hwm3 hwo3
        clear c4_0 z4_0 c4_1 z4_1 c4_2 z4_2 c4_3 z4_3 c4_4 z4_4 d4_0 d4_1 d4_2 d4_3 d4_4 Bz4 Fz4 Fo4 hwm4 hwo4
        clear F2 FF3 FF4 B3 r2 r3 FW3 Fq hA2
        have HB34 := Lib.hid B34
        have HB4 := Lib.hid B4
        have HR4 := Lib.hid r4
        have HW4 := Lib.hid FW4
        have HRR := Lib.hid HR
        clear B34 B4 r4 FW4
        generalize w2.heap.size = bR at hbR hne HB34 ⊢
        generalize wo3.heap.size = bL at hbL hne HB4 HAB ⊢
        go_loopw [11, 12] (fun l i wr => GrRel W bR bL p A2 m c xs (k % 70) l i wr) (fun _ i _ => (60 - intOf i).toNat)
        case atStart => exact ⟨0, 0, false, rfl, rfl, by omega, by omega, fun _ => (rc_zero HRR.out (by omega)).symm, .inr (by omega), HB34.out, HB4.out, HR4.out, HW4.out⟩
        case round =>
          obtain ⟨j, st, kd, rfl, rfl, hj, hst, hac, hak, BR, BL, rr, Fk⟩ := hrel
          clear HB34 HB4 HR4 HW4
          have HAC := Lib.hid hac
          have HAK := Lib.hid hak
          clear hac hak
          by_cases h60 : j < 59
          · have h3 : (j : Int) + 1 < 60 := by omega
            by_cases hnow : (j : Int) + 1 = k % 70
            · have e1 : ((j : Int) + 1 == k % 70) = true := by simp; omega
              have HNW := Lib.hid hnow
              clear hnow
              obtain ⟨c0, c1, c2, c3, c4⟩ := cells5 BL
              go_wp2_with fail
              refine (ack_any _ true true kd 1 st).mono ?_
              rintro e w5 ⟨rfl, F5⟩
              rw [show ak (true, true, kd, 1, (st : Int)) = (true, true, true, 1, (st : Int)) from by simp [ak]]
              simp only [lv]
              have BR5 := F5.at_ BR (fun x => x)
              have BL5 := F5.at_ BL (fun x => x)
              have rr5 := rr.fr F5 (fun _ _ x => x)
              have FW5 := Fk.step F5 nop
              clear c0 c1 c2 c3 c4
              obtain ⟨c6_0, c6_1, c6_2, c6_3, c6_4⟩ := cells5 BL5
              have z6_0 := frozen_of BL5 0
              have z6_1 := frozen_of BL5 1
              have z6_2 := frozen_of BL5 2
              have z6_3 := frozen_of BL5 3
              have z6_4 := frozen_of BL5 4
              have B6 := put5y (y0 := .bool true) (y1 := .bool true) (y2 := .bool true) (y3 := .int .i64 1) (y4 := .int .i64 (st)) BL5
              have Fo6 := (Fr.refl (fun i => i = bL) w5).put5 (b := bL) (fun _ => rfl) (.bool true) (.bool true) (.bool true) (.int .i64 1) (.int .i64 (st))
              generalize hwo6 : (((((w5.setCell ⟨bL, 0, none⟩ (.bool true)).setCell ⟨bL, 1, none⟩ (.bool true)).setCell ⟨bL, 2, none⟩ (.bool true)).setCell ⟨bL, 3, none⟩ (.int .i64 1)).setCell ⟨bL, 4, none⟩ (.int .i64 (st))) = wo6 at B6 Fo6
              obtain ⟨d6_0, d6_1, d6_2, d6_3, d6_4⟩ := cells5 B6
              have BR6 := Fo6.at_ BR5 hne
              have rr6 := rr5.fr Fo6 (fun ad h1 h2 => HAB.out ad h1 h2)
              have FW6 := FW5.step Fo6 (fun i (h : i = bL) => by omega)
              have HCL := Lib.hid (clb_acked xs (st : Int) ((j : Int) + 1))
              obtain ⟨r0, r1, r2, r3, r4, r5, r6, r7, r8⟩ := cells9 BR6
              go_wp2_with fail
              clear c6_0 z6_0 d6_0 c6_1 z6_1 d6_1 c6_2 z6_2 d6_2 c6_3 z6_3 d6_3 c6_4 z6_4 d6_4 Fo6 hwo6
              clear r0 r1 r2 r3 r4 r5 r6 r7 r8
              refine (climb_any _ p A2 m c xs true true true 1 (st) ((j : Int) + 1) rr6 hm8 hmc HRR.out.waits (by unfold BigI; omega) (by unfold BigI; omega)).mono ?_
              rintro e w7 ⟨rfl, F7⟩
              rw [HCL.out]
              simp only [lv]
              have BR7 := F7.at_ BR6 (fun x => x)
              have BL7 := F7.at_ B6 (fun x => x)
              have rr7 := rr6.fr F7 (fun _ _ x => x)
              have FW7 := FW6.step F7 nop
              obtain ⟨c8_0, c8_1, c8_2, c8_3, c8_4⟩ := cells5 BL7
              have z8_0 := frozen_of BL7 0
              have z8_1 := frozen_of BL7 1
              have z8_2 := frozen_of BL7 2
              have z8_3 := frozen_of BL7 3
              have z8_4 := frozen_of BL7 4
              have B8 := put5y (y0 := .bool true) (y1 := .bool true) (y2 := .bool true) (y3 := .int .i64 1) (y4 := .int .i64 (st)) BL7
              have Fo8 := (Fr.refl (fun i => i = bL) w7).put5 (b := bL) (fun _ => rfl) (.bool true) (.bool true) (.bool true) (.int .i64 1) (.int .i64 (st))
              generalize hwo8 : (((((w7.setCell ⟨bL, 0, none⟩ (.bool true)).setCell ⟨bL, 1, none⟩ (.bool true)).setCell ⟨bL, 2, none⟩ (.bool true)).setCell ⟨bL, 3, none⟩ (.int .i64 1)).setCell ⟨bL, 4, none⟩ (.int .i64 (st))) = wo8 at B8 Fo8
              obtain ⟨d8_0, d8_1, d8_2, d8_3, d8_4⟩ := cells5 B8
              have BR8 := Fo8.at_ BR7 hne
              have hA2b : ∀ ad, A2 = some ad → ad.block ≠ bL := HAB.out
              have rr8 := rr7.fr Fo8 (fun ad h1 h2 => hA2b ad h1 h2)
              have FW8 := FW7.step Fo8 (fun i (h : i = bL) => by omega)
              have HF8 := Lib.hid FW8
              clear FW8 FW7
              go_wp2_with fail
              obtain ⟨m0, m1, m2, m3, m4⟩ := Calm.cells5 B8
              (refine wp_region_calm (by kernel_rfl) (by kernel_rfl) ?_; (repeat (go_big_quiet_step (fail))); refine wpQuiet_nil ?_; intro _ hwq0; obtain ⟨nq, hwq1⟩ := hwq0; subst hwq1)
              have BR9 := nq.fr.at_ BR8 (fun x => x)
              have BL9 := nq.fr.at_ B8 (fun x => x)
              have rr9 := rr8.fr nq.fr (fun _ _ x => x)
              have FW9 := HF8.out.step nq.fr nop
              generalize nq.to = w9 at BR9 BL9 rr9 FW9 ⊢
              obtain ⟨l0, l1, l2, l3, l4⟩ := cells5 BL9
              have HF9 := Lib.hid FW9
              clear FW9
              go_wp2
              go_roundw
              case rel => exact ⟨j + 1, st, true, by go_num, rfl, by omega, hst, (fun h => by cases h), .inl rfl, BR9, BL9, rr9, HF9.out⟩
              case measure => simp [intOf]; omega
            · have e1 : ((j : Int) + 1 == k % 70) = false := by simp; omega
              have HNW := Lib.hid hnow
              clear hnow
              cases kd
              case true =>
                have HCL := Lib.hid (clb_acked xs (st : Int) ((j : Int) + 1))
                obtain ⟨r0, r1, r2, r3, r4, r5, r6, r7, r8⟩ := cells9 BR
                obtain ⟨l0, l1, l2, l3, l4⟩ := cells5 BL
                go_wp2_with fail
                refine (climb_any _ p A2 m c xs true true true 1 (st) ((j : Int) + 1) rr hm8 hmc HRR.out.waits (by unfold BigI; omega) (by unfold BigI; omega)).mono ?_
                rintro e w7 ⟨rfl, F7⟩
                rw [HCL.out]
                simp only [lv]
                have BR7 := F7.at_ BR (fun x => x)
                have BL7 := F7.at_ BL (fun x => x)
                have rr7 := rr.fr F7 (fun _ _ x => x)
                have FW7 := Fk.step F7 nop
                clear r0 r1 r2 r3 r4 r5 r6 r7 r8 l0 l1 l2 l3 l4
                obtain ⟨c8_0, c8_1, c8_2, c8_3, c8_4⟩ := cells5 BL7
                have z8_0 := frozen_of BL7 0
                have z8_1 := frozen_of BL7 1
                have z8_2 := frozen_of BL7 2
                have z8_3 := frozen_of BL7 3
                have z8_4 := frozen_of BL7 4
                have B8 := put5y (y0 := .bool true) (y1 := .bool true) (y2 := .bool true) (y3 := .int .i64 1) (y4 := .int .i64 (st)) BL7
                have Fo8 := (Fr.refl (fun i => i = bL) w7).put5 (b := bL) (fun _ => rfl) (.bool true) (.bool true) (.bool true) (.int .i64 1) (.int .i64 (st))
                generalize hwo8 : (((((w7.setCell ⟨bL, 0, none⟩ (.bool true)).setCell ⟨bL, 1, none⟩ (.bool true)).setCell ⟨bL, 2, none⟩ (.bool true)).setCell ⟨bL, 3, none⟩ (.int .i64 1)).setCell ⟨bL, 4, none⟩ (.int .i64 (st))) = wo8 at B8 Fo8
                obtain ⟨d8_0, d8_1, d8_2, d8_3, d8_4⟩ := cells5 B8
                have BR8 := Fo8.at_ BR7 hne
                have hA2b : ∀ ad, A2 = some ad → ad.block ≠ bL := HAB.out
                have rr8 := rr7.fr Fo8 (fun ad h1 h2 => hA2b ad h1 h2)
                have FW8 := FW7.step Fo8 (fun i (h : i = bL) => by omega)
                have HF8 := Lib.hid FW8
                clear FW8 FW7
                go_wp2_with fail
                obtain ⟨m0, m1, m2, m3, m4⟩ := Calm.cells5 B8
                (refine wp_region_calm (by kernel_rfl) (by kernel_rfl) ?_; (repeat (go_big_quiet_step (fail))); refine wpQuiet_nil ?_; intro _ hwq0; obtain ⟨nq, hwq1⟩ := hwq0; subst hwq1)
                have BR9 := nq.fr.at_ BR8 (fun x => x)
                have BL9 := nq.fr.at_ B8 (fun x => x)
                have rr9 := rr8.fr nq.fr (fun _ _ x => x)
                have FW9 := HF8.out.step nq.fr nop
                generalize nq.to = w9 at BR9 BL9 rr9 FW9 ⊢
                obtain ⟨l0, l1, l2, l3, l4⟩ := cells5 BL9
                have HF9 := Lib.hid FW9
                clear FW9
                go_wp2
                go_roundw
                case rel => exact ⟨j + 1, st, true, by go_num, rfl, by omega, hst, (fun h => by cases h), .inl rfl, BR9, BL9, rr9, HF9.out⟩
                case measure => simp [intOf]; omega
              case false =>
                obtain rfl : st = rc xs ((j : Int) - 1) := HAC.out rfl
                have HCL := Lib.hid (clb_grow HRR.out j (by omega))
                have HST : Hid (rc xs (j : Int) ≤ 4) := Lib.hid (by have h1 := rc_le xs (j : Int); have h2 := HRR.out.few; omega)
                have HNX : Hid (¬ (1 ≤ k % 70 ∧ k % 70 ≤ ((j + 1 : Nat) : Int))) := Lib.hid (by have := HNW.out; rcases HAK.out with h | h; cases h; omega)
                have hmono : rc xs ((j : Int) - 1) ≤ rc xs (j : Int) := rc_mono HRR.out.waits (by omega)
                obtain ⟨r0, r1, r2, r3, r4, r5, r6, r7, r8⟩ := cells9 BR
                obtain ⟨l0, l1, l2, l3, l4⟩ := cells5 BL
                go_wp2_with fail
                refine (climb_any _ p A2 m c xs true true false 1 (((rc xs ((j : Int) - 1) : Nat) : Int)) ((j : Int) + 1) rr hm8 hmc HRR.out.waits (by unfold BigI; omega) (by unfold BigI; omega)).mono ?_
                rintro e w7 ⟨rfl, F7⟩
                rw [HCL.out]
                simp only [lv]
                have BR7 := F7.at_ BR (fun x => x)
                have BL7 := F7.at_ BL (fun x => x)
                have rr7 := rr.fr F7 (fun _ _ x => x)
                have FW7 := Fk.step F7 nop
                clear r0 r1 r2 r3 r4 r5 r6 r7 r8 l0 l1 l2 l3 l4
                obtain ⟨c8_0, c8_1, c8_2, c8_3, c8_4⟩ := cells5 BL7
                have z8_0 := frozen_of BL7 0
                have z8_1 := frozen_of BL7 1
                have z8_2 := frozen_of BL7 2
                have z8_3 := frozen_of BL7 3
                have z8_4 := frozen_of BL7 4
                have B8 := put5y (y0 := .bool true) (y1 := .bool true) (y2 := .bool false) (y3 := .int .i64 1) (y4 := .int .i64 (((rc xs (j : Int) : Nat) : Int))) BL7
                have Fo8 := (Fr.refl (fun i => i = bL) w7).put5 (b := bL) (fun _ => rfl) (.bool true) (.bool true) (.bool false) (.int .i64 1) (.int .i64 (((rc xs (j : Int) : Nat) : Int)))
                generalize hwo8 : (((((w7.setCell ⟨bL, 0, none⟩ (.bool true)).setCell ⟨bL, 1, none⟩ (.bool true)).setCell ⟨bL, 2, none⟩ (.bool false)).setCell ⟨bL, 3, none⟩ (.int .i64 1)).setCell ⟨bL, 4, none⟩ (.int .i64 (((rc xs (j : Int) : Nat) : Int)))) = wo8 at B8 Fo8
                obtain ⟨d8_0, d8_1, d8_2, d8_3, d8_4⟩ := cells5 B8
                have BR8 := Fo8.at_ BR7 hne
                have hA2b : ∀ ad, A2 = some ad → ad.block ≠ bL := HAB.out
                have rr8 := rr7.fr Fo8 (fun ad h1 h2 => hA2b ad h1 h2)
                have FW8 := FW7.step Fo8 (fun i (h : i = bL) => by omega)
                have HF8 := Lib.hid FW8
                clear FW8 FW7
                have HM := Lib.hid (show ((j + 1 : Nat) : Int) - 1 = (j : Int) by omega)
                have HRE := Lib.hid (fun (x : Calm wo8) => rreached_any x.to A2 m c xs (j : Int) (rr8.fr x.fr (fun _ _ h => h)) hm8 HRR.out.waits)
                have e7 : decide (((rc xs (j : Int) : Nat) : Int) < ((rc xs ((j : Int) - 1) : Nat) : Int)) = false := decide_eq_false (by omega)
                have e8 : decide (rc xs (j : Int) < rc xs ((j : Int) - 1)) = false := decide_eq_false (by omega)
                have e9 : IntKind.i64.wrap ((j : Int) + 1 - 1) = (j : Int) := by rw [show (j : Int) + 1 - 1 = (j : Int) from by omega]; exact IntWalk.i64_in _ (by omega)
                go_wp2_with fail
                obtain ⟨m0, m1, m2, m3, m4⟩ := Calm.cells5 B8
                obtain ⟨-, -, -, -, -, -, -, -, m8⟩ := Calm.cells9 BR8
                (refine wp_region_calm (by kernel_rfl) (by kernel_rfl) ?_; (repeat (go_big_quiet_step ((go_at_call 18; exact Calm.of (HRE.out _))))); refine wpQuiet_nil ?_; intro _ hwq0; obtain ⟨nq, hwq1⟩ := hwq0; subst hwq1)
                have BR9 := nq.fr.at_ BR8 (fun x => x)
                have BL9 := nq.fr.at_ B8 (fun x => x)
                have rr9 := rr8.fr nq.fr (fun _ _ x => x)
                have FW9 := HF8.out.step nq.fr nop
                generalize nq.to = w9 at BR9 BL9 rr9 FW9 ⊢
                obtain ⟨l0, l1, l2, l3, l4⟩ := cells5 BL9
                have HF9 := Lib.hid FW9
                clear FW9
                go_wp2
                go_roundw
                case rel => exact ⟨j + 1, rc xs (j : Int), false, by go_num, rfl, by omega, HST.out, fun _ => congrArg (rc xs) HM.out.symm, .inr HNX.out, BR9, BL9, rr9, HF9.out⟩
                case measure => simp [intOf]; omega
          · have h3 : ¬ (j : Int) + 1 < 60 := by omega
            have HF := Lib.hid Fk
            go_wp2
            go_ret
            exact ⟨rfl, HF.out.below⟩
  · have e0 : (8 : Int) < (n : Int) := by omega
    go_enter Try.func12, Try.ntmps12
    go_wp2_with fail
    refine (steps_any _).mono ?_
    rintro e w1 ⟨rfl, F1⟩
    go_wp2_with fail
    refine (steps_any _).mono ?_
    rintro e w2 ⟨rfl, F2⟩
    go_wp2
    go_ret
    exact ⟨rfl, (F1.step F2 nop).below⟩

end Go.Proofs.Ytmjdiadpdbdedaa
