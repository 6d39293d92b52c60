/- Io. -/
import Derived.Test.YtahddolplklopaaChecked
import Derived.WalkKit
import Derived.Laws.IdiomCopy
import Derived.Deep.QuietTactic
import Derived.BigQuiet
import Derived.Lib.Hide
import Derived.OpenShut
import Derived.StillTailTactics
import Derived.Deep.RegionWith
import Derived.Deep.RegionLaw
import Derived.Deep.Slices
import Derived.Deep.RegionHeld3
import Derived.OwnWalk
import Derived.Deep.DeepCutAuto
import Derived.Deep.CutRange
import Derived.Test.YtahddolplklopaaBase
import Derived.Test.YtahddolplklopaaCalm
import Derived.Test.YtahddolplklopaaCalmT
import Derived.Test.YtahddolplklopaaCel
import Derived.Test.YtahddolplklopaaApp
import Derived.Test.YtahddolplklopaaRE
import Derived.Test.YtahddolplklopaaREB
import Derived.Test.YtahddolplklopaaREC
import Derived.Test.YtahddolplklopaaREA
import Derived.Test.YtahddolplklopaaBq
import Derived.Test.YtahddolplklopaaBp
import Derived.Test.YtahddolplklopaaBx
import Derived.Test.YtahddolplklopaaBr
import Derived.Test.YtahddolplklopaaBk0
import Derived.Test.YtahddolplklopaaBt
import Derived.Test.YtahddolplklopaaBk
import Derived.Test.YtahddolplklopaaBu
import Derived.Test.YtahddolplklopaaBv
import Derived.Maps.AppendAt
import Derived.Test.YtahddolplklopaaMkD
import Derived.Test.YtahddolplklopaaMkE
import Derived.Test.YtahddolplklopaaClk
import Derived.Test.YtahddolplklopaaIk
import Derived.Test.YtahddolplklopaaMkM
import Derived.Test.YtahddolplklopaaIl
import Derived.BigRegion
import Derived.Deep.CutBlock
import Derived.Test.YtahddolplklopaaEqa
import Derived.Test.YtahddolplklopaaIlw
namespace Go.Proofs.Ytahddolplklopaa
open Go.RowKit
set_option linter.unusedVariables false
set_option linter.unusedSimpArgs false

set_option maxRecDepth 100000 in
set_option maxHeartbeats 40000000 in
theorem IntakeOver_walk (A0 A1 : Option Addr) (n0 k0 n1 k1 : Nat) (gb gd gp go_ : Int) (gk : Bool) (gl : Int) (ls : List Ln) (ss : List (List Int)) (sl : List Int) (a : Int) (W : World) (hd : Dft W A0 n0 ls ss A1 n1 sl) (hb : byte gb ∧ byte gd ∧ byte gp ∧ byte go_ ∧ byte gl) (ha : (Lit.int .u16 a).wf = true) :
    Calls Try.prog 3 #[.agg #[.slice A0 n0 k0, .slice A1 n1 k1, .int .u8 gb, .int .u8 gd, .int .u8 gp, .int .u8 go_, .bool gk, .int .u8 gl], .int .u16 a] W fun e w' => e = .returned (.bool true) ∧ Below W.heap.size W w' := by
  have BD := alloc_is (w := W) (n := W.heap.size) (.cells #[.slice A0 n0 k0, .slice A1 n1 k1, .int .u8 gb, .int .u8 gd, .int .u8 gp, .int .u8 go_, .bool gk, .int .u8 gl] 25) rfl
  have F1 := (Fr.refl (fun _ => False) W).alloc (.cells #[.slice A0 n0 k0, .slice A1 n1 k1, .int .u8 gb, .int .u8 gd, .int .u8 gp, .int .u8 go_, .bool gk, .int .u8 gl] 25)
  generalize hw1 : W.alloc (.cells #[.slice A0 n0 k0, .slice A1 n1 k1, .int .u8 gb, .int .u8 gd, .int .u8 gp, .int .u8 go_, .bool gk, .int .u8 gl] 25) = w1 at BD F1
  have HBD := Lib.hid BD
  have HF1 := Lib.hid F1
  have HD := Lib.hid (hd.calm F1)
  have HBY := Lib.hid hb
  clear BD F1 hd hb
  go_enter Try.func3, Try.ntmps3
  go_wp2_with fail
  refine (refuses_any _).mono ?_
  rintro e w2 ⟨rfl, F_w2⟩
  have G_w2 := Lib.hid (F_w2)
  clear F_w2
  clear hw1
  obtain ⟨q0, q1, q2, q3, q4, q5, q6, q7⟩ := cells8 (G_w2.out.at_ HBD.out (fun x => x))
  have HSH := Lib.hid (short_any w2 A0 A1 n0 k0 n1 k1 gb gd gp go_ gk gl ls (HD.out.rd.fr G_w2.out (fun _ _ x => x)))
  go_wp2_with fail
  refine HSH.out.mono ?_
  rintro e w3 ⟨b, rfl, F3⟩
  have G_w3 := Lib.hid (G_w2.out.step F3 nop)
  clear F3 q0 q1 q2 q3 q4 q5 q6 q7
  cases b
  · go_wp2_with fail
    refine (refuses_any _).mono ?_
    rintro e w4 ⟨rfl, F_w4⟩
    have G_w4 := Lib.hid (G_w3.out.step F_w4 nop)
    clear F_w4
    go_wp2_with fail
    go_ret
    exact ⟨rfl, (HF1.out.step G_w4.out nop).below⟩
  · obtain ⟨q0, q1, q2, q3, q4, q5, q6, q7⟩ := cells8 (G_w3.out.at_ HBD.out (fun x => x))
    have HM := Lib.hid (Make_c w3 A0 A1 n0 k0 n1 k1 gb gd gp go_ gk gl ls ss sl (HD.out.calm G_w3.out) HBY.out)
    go_wp2_with fail
    refine HM.out.mono ?_
    rintro e w4 ⟨c, sb, rs, vs, tbl, rfl, mk⟩
    clear q0 q1 q2 q3 q4 q5 q6 q7
    have G_w4 := Lib.hid (G_w3.out.step mk.fr nop)
    have Bz5 : (w4.alloc (.cells #[.slice none 0 0, .slice none 0 0, .slice none 0 0, .int .i64 0, .int .i64 0, .int .i64 0, .int .i64 0, .int .i64 0, .int .i64 0, .bool false, .int .i64 0] 34)).heap[w4.heap.size]? = some (.cells #[.slice none 0 0, .slice none 0 0, .slice none 0 0, .int .i64 0, .int .i64 0, .int .i64 0, .int .i64 0, .int .i64 0, .int .i64 0, .bool false, .int .i64 0] 34 (0, 0)) := alloc_is _ rfl
    have Fz5 := (Fr.refl (fun _ => False) w4).alloc (.cells #[.slice none 0 0, .slice none 0 0, .slice none 0 0, .int .i64 0, .int .i64 0, .int .i64 0, .int .i64 0, .int .i64 0, .int .i64 0, .bool false, .int .i64 0] 34)
    generalize hwm5 : w4.alloc (.cells #[.slice none 0 0, .slice none 0 0, .slice none 0 0, .int .i64 0, .int .i64 0, .int .i64 0, .int .i64 0, .int .i64 0, .int .i64 0, .bool false, .int .i64 0] 34) = wm5 at Bz5 Fz5
    obtain ⟨c5_0, c5_1, c5_2, c5_3, c5_4, c5_5, c5_6, c5_7, c5_8, c5_9, c5_10⟩ := cells11 Bz5
    have z5_0 := frozen_of Bz5 0
    have z5_1 := frozen_of Bz5 1
    have z5_2 := frozen_of Bz5 2
    have z5_3 := frozen_of Bz5 3
    have z5_4 := frozen_of Bz5 4
    have z5_5 := frozen_of Bz5 5
    have z5_6 := frozen_of Bz5 6
    have z5_7 := frozen_of Bz5 7
    have z5_8 := frozen_of Bz5 8
    have z5_9 := frozen_of Bz5 9
    have z5_10 := frozen_of Bz5 10
    have B5 := put11y (y0 := .slice c.s1 c.s2 c.s3) (y1 := .slice c.rv c.N c.rk) (y2 := .slice c.tv c.t c.tk) (y3 := .int .i64 c.b0) (y4 := .int .i64 c.b1) (y5 := .int .i64 c.b2) (y6 := .int .i64 c.dr) (y7 := .int .i64 c.pa) (y8 := .int .i64 c.of_) (y9 := .bool c.br) (y10 := .int .i64 c.lg) Bz5
    have Fo5 := (Fr.refl (fun i => i = w4.heap.size) wm5).put11 (b := w4.heap.size) (fun _ => rfl) (.slice c.s1 c.s2 c.s3) (.slice c.rv c.N c.rk) (.slice c.tv c.t c.tk) (.int .i64 c.b0) (.int .i64 c.b1) (.int .i64 c.b2) (.int .i64 c.dr) (.int .i64 c.pa) (.int .i64 c.of_) (.bool c.br) (.int .i64 c.lg)
    generalize hwo5 : (((((((((((wm5.setCell ⟨w4.heap.size, 0, none⟩ (.slice c.s1 c.s2 c.s3)).setCell ⟨w4.heap.size, 1, none⟩ (.slice c.rv c.N c.rk)).setCell ⟨w4.heap.size, 2, none⟩ (.slice c.tv c.t c.tk)).setCell ⟨w4.heap.size, 3, none⟩ (.int .i64 c.b0)).setCell ⟨w4.heap.size, 4, none⟩ (.int .i64 c.b1)).setCell ⟨w4.heap.size, 5, none⟩ (.int .i64 c.b2)).setCell ⟨w4.heap.size, 6, none⟩ (.int .i64 c.dr)).setCell ⟨w4.heap.size, 7, none⟩ (.int .i64 c.pa)).setCell ⟨w4.heap.size, 8, none⟩ (.int .i64 c.of_)).setCell ⟨w4.heap.size, 9, none⟩ (.bool c.br)).setCell ⟨w4.heap.size, 10, none⟩ (.int .i64 c.lg)) = wo5 at B5 Fo5
    have FF5 := Fz5.trans Fo5 (fun i hi (h : i = w4.heap.size) => by omega)
    obtain ⟨d5_0, d5_1, d5_2, d5_3, d5_4, d5_5, d5_6, d5_7, d5_8, d5_9, d5_10⟩ := cells11 B5
    have HBC := Lib.hid B5
    have HFC := Lib.hid FF5
    have HMK := Lib.hid mk
    clear B5 FF5 mk
    go_upto_region 4 with (fail)
    clear c5_0 z5_0 c5_1 z5_1 c5_2 z5_2 c5_3 z5_3 c5_4 z5_4 c5_5 z5_5 c5_6 z5_6 c5_7 z5_7 c5_8 z5_8 c5_9 z5_9 c5_10 z5_10 d5_0 d5_1 d5_2 d5_3 d5_4 d5_5 d5_6 d5_7 d5_8 d5_9 d5_10 Bz5 Fz5 Fo5 hwm5 hwo5
    have BA : (((wo5.setCell ⟨w4.heap.size, 3, none⟩ (.int .i64 1)).setCell ⟨w4.heap.size, 4, none⟩ (.int .i64 1)).setCell ⟨w4.heap.size, 5, none⟩ (.int .i64 1)).heap[w4.heap.size]? = some (.cells #[.slice c.s1 c.s2 c.s3, .slice c.rv c.N c.rk, .slice c.tv c.t c.tk, .int .i64 1, .int .i64 1, .int .i64 1, .int .i64 c.dr, .int .i64 c.pa, .int .i64 c.of_, .bool c.br, .int .i64 c.lg] 34 (0, 0)) := set_at (set_at (set_at HBC.out 3 _) 4 _) 5 _
    have FA := (((Fr.refl (fun i => i = w4.heap.size) wo5).setCell (p := ⟨w4.heap.size, 3, none⟩) (fun _ => rfl) (.int .i64 1)).setCell (p := ⟨w4.heap.size, 4, none⟩) (fun _ => rfl) (.int .i64 1)).setCell (p := ⟨w4.heap.size, 5, none⟩) (fun _ => rfl) (.int .i64 1)
    generalize hwA : ((wo5.setCell ⟨w4.heap.size, 3, none⟩ (.int .i64 1)).setCell ⟨w4.heap.size, 4, none⟩ (.int .i64 1)).setCell ⟨w4.heap.size, 5, none⟩ (.int .i64 1) = wA at BA FA
    obtain ⟨-, -, -, d3, d4, d5, -⟩ := cells11 HBC.out
    have z3 := frozen_of HBC.out 3
    have z4 := frozen_of HBC.out 4
    have z5 := frozen_of HBC.out 5
    have HBA := Lib.hid BA
    have FW : Fr (fun _ => False) w4 wA := HFC.out.trans FA (fun i hi e => by omega)
    have HFA := Lib.hid FW
    clear BA FA FW
    go_upto_region 5 with (fail)
    clear d3 d4 d5 z3 z4 z5 hwA
    have HN8 := Lib.hid HMK.out.N8
    have RD := HMK.out.rd.fr HFA.out (fun _ _ x => x)
    obtain ⟨zb, zo, hrv, hzb⟩ := RD.plain (by have := HN8.out; omega)
    rw [hrv] at HBA RD ⊢
    obtain ⟨y, hr0⟩ : ∃ y, rs.getD 0 ERl.z = y := ⟨_, rfl⟩
    obtain ⟨y0, y1, y2, y3, y4, y5, y6, y7, yA, yn, yc⟩ := y
    have RDL := RD.rl (k := 0) (by have := HN8.out; omega) hr0
    simp only [Nat.zero_mul, Nat.add_zero] at RDL
    have HR0 := Lib.hid hr0
    have HRV := Lib.hid hrv
    have HZB : Hid (zb < w4.heap.size) := Lib.hid (rd_lt (HMK.out.rd) hrv (by have := HN8.out; omega))
    have HRL : Hid (rs.length = c.N) := Lib.hid RD.1
    obtain ⟨cb, hcb⟩ : ∃ cb, w4.heap.size = cb := ⟨_, rfl⟩
    rw [hcb] at HBA ⊢
    have HCB : Hid (w4.heap.size = cb ∧ cb < wA.heap.size) := Lib.hid ⟨hcb, lt_of HBA.out⟩
    have HKEEP : Hid (∀ w', Fr (fun _ => False) wA w' → w'.cell? ⟨cb, 1, none⟩ = some (.slice (some ⟨zb, zo, none⟩) c.N c.rk) ∧ w'.frozen? ⟨cb, 1, none⟩ = false ∧ w'.cell? ⟨zb, zo, none⟩ = some (.int .u8 y0) ∧ w'.cell? ⟨zb, zo + 1, none⟩ = some (.int .i64 y1) ∧ w'.cell? ⟨zb, zo + 2, none⟩ = some (.int .i64 y2) ∧ w'.cell? ⟨zb, zo + 3, none⟩ = some (.int .i64 y3) ∧ w'.cell? ⟨zb, zo + 4, none⟩ = some (.int .i64 y4) ∧ w'.cell? ⟨zb, zo + 5, none⟩ = some (.int .i64 y5) ∧ w'.cell? ⟨zb, zo + 6, none⟩ = some (.int .u8 y6) ∧ w'.cell? ⟨zb, zo + 7, none⟩ = some (.bool y7) ∧ w'.cell? ⟨zb, zo + 8, none⟩ = some (.slice yA yn yc)) := Lib.hid (fun w' h => by
      have h1 := h.at_ HBA.out (fun x => x)
      have h2 := (RD.fr h (fun _ _ x => x)).rl (k := 0) (by have := HN8.out; omega) HR0.out
      simp only [Nat.zero_mul, Nat.add_zero] at h2
      exact ⟨(cells11 h1).2.1, frozen_of h1 1, h2⟩)
    have HRD1 : Hid (Reads ERl wA.drew (some ⟨zb, zo, none⟩) c.N rs) := Lib.hid (RD.fr ((Fr.refl (fun _ => False) wA).drew) (fun _ _ x => x))
    have HRD2 : Hid (Reads ERl (wA.drew.alloc (.cells #[.int .u8 y0, .int .i64 y1, .int .i64 y2, .int .i64 y3, .int .i64 y4, .int .i64 y5, .int .u8 y6, .bool y7, .slice yA yn yc] 38)) (some ⟨zb, zo, none⟩) c.N rs) := Lib.hid (RD.fr (((Fr.refl (fun _ => False) wA).drew).alloc _) (fun _ _ x => x))
    have HONE : Hid (∀ y ∈ rs, ∀ u ∈ ERl.enc y, u.oneCell' = true) := Lib.hid (fun y _ u hu => by simp [ERl] at hu; rcases hu with rfl | rfl | rfl | rfl | rfl | rfl | rfl | rfl | rfl <;> rfl)
    have HB5 : Hid (∀ u ∈ ERl.enc (⟨y0, y1, y2, y3, y4, y5, y6, y7, yA, yn, yc⟩ : Rl), u.oneCell' = true) := Lib.hid (by intro u hu; simp [ERl] at hu; rcases hu with rfl | rfl | rfl | rfl | rfl | rfl | rfl | rfl | rfl <;> rfl)
    have HSZ2 : Hid (∀ X, wA.heap.size ≤ (wA.drew.alloc X).heap.size) := Lib.hid (fun X => by simp)
    have HSZA : Hid (∀ (w : World) X, w.heap.size ≤ (w.alloc X).heap.size) := Lib.hid (fun w X => by simp)
    have HNEWS : Hid (∀ w1 : World, (wA.drew.alloc (.cells #[.int .u8 y0, .int .i64 y1, .int .i64 y2, .int .i64 y3, .int .i64 y4, .int .i64 y5, .int .u8 y6, .bool y7, .slice yA yn yc] 38)).grownBy w1 (Value.slice none 0 0).ownBlock → ∀ j u, (ERl.enc (⟨y0, y1, y2, y3, y4, y5, y6, y7, yA, yn, yc⟩ : Rl))[j]? = some u → w1.cell? ((⟨wA.heap.size, 0, none⟩ : Addr).add j) = some u) := Lib.hid (fun w1 hg j u hu => by
      have h1 := hg.block wA.heap.size (by simp) (fun h => by cases h)
      have h2 := lit_cells (W := wA.drew) (cs := [.int .u8 y0, .int .i64 y1, .int .i64 y2, .int .i64 y3, .int .i64 y4, .int .i64 y5, .int .u8 y6, .bool y7, .slice yA yn yc]) (te := 38) (g := wA.heap.size) rfl j u hu
      rw [add_plain0] at h2 ⊢
      exact (World.cell?_of_block (a := ⟨wA.heap.size, 0 + j, none⟩) h1).trans h2)
    obtain ⟨i0, hii, hz0, hz1, hz2⟩ := info_parts (show (Try.prog.info? 38).map (fun i => (i.zero, i.size, i.bytes)) = some (some (.agg #[.int .u8 0, .int .i64 0, .int .i64 0, .int .i64 0, .int .i64 0, .int .i64 0, .int .u8 0, .bool false, .slice none 0 0]), 9, 80) by kernel_rfl)
    have hN1 : c.N ≤ maxLen := by have := HN8.out; unfold maxLen; omega
    have hN2 : c.N * 80 ≤ 140737488355328 := by have := HN8.out; omega
    have hl1 : rs.length + 1 ≤ maxLen := by have := HN8.out; have := HRL.out; unfold maxLen; omega
    have hl2 : (rs.length + 1) * 80 ≤ 140737488355328 := by have := HN8.out; have := HRL.out; omega
    have hNp : (0 : Int) < (c.N : Int) := by have := HN8.out; omega
    have hNp' : 0 < c.N := by have := HN8.out; omega
    clear RDL hr0 hrv hcb RD
    go_cut [] (fun wx => ∃ (A' : Option Addr) (k' : Nat), wx.heap[cb]? = some (.cells #[.slice c.s1 c.s2 c.s3, .slice A' (rs.length + 1) k', .slice c.tv c.t c.tk, .int .i64 1, .int .i64 1, .int .i64 1, .int .i64 c.dr, .int .i64 c.pa, .int .i64 c.of_, .bool c.br, .int .i64 c.lg] 34 (0, 0)) ∧ Own ERl 38 wx wA.heap.size (.slice A' (rs.length + 1) k') (rs ++ [(⟨y0, y1, y2, y3, y4, y5, y6, y7, yA, yn, yc⟩ : Rl)]) ∧ Fr (fun k => k = cb) wA wx)
    case first =>
      obtain ⟨h0, h1, h2, h3, h4, h5, h6, h7, h8, h9, h10⟩ := HKEEP.out wA (Fr.refl _ _)
      have p0 := fun X => (HKEEP.out (wA.alloc X) (Fr.alloc (Fr.refl _ _) X)).1; have p1 := fun X => (HKEEP.out (wA.alloc X) (Fr.alloc (Fr.refl _ _) X)).2.1; have p2 := fun X => (HKEEP.out (wA.alloc X) (Fr.alloc (Fr.refl _ _) X)).2.2.1; have p3 := fun X => (HKEEP.out (wA.alloc X) (Fr.alloc (Fr.refl _ _) X)).2.2.2.1; have p4 := fun X => (HKEEP.out (wA.alloc X) (Fr.alloc (Fr.refl _ _) X)).2.2.2.2.1; have p5 := fun X => (HKEEP.out (wA.alloc X) (Fr.alloc (Fr.refl _ _) X)).2.2.2.2.2.1; have p6 := fun X => (HKEEP.out (wA.alloc X) (Fr.alloc (Fr.refl _ _) X)).2.2.2.2.2.2.1; have p7 := fun X => (HKEEP.out (wA.alloc X) (Fr.alloc (Fr.refl _ _) X)).2.2.2.2.2.2.2.1; have p8 := fun X => (HKEEP.out (wA.alloc X) (Fr.alloc (Fr.refl _ _) X)).2.2.2.2.2.2.2.2.1; have p9 := fun X => (HKEEP.out (wA.alloc X) (Fr.alloc (Fr.refl _ _) X)).2.2.2.2.2.2.2.2.2.1; have p10 := fun X => (HKEEP.out (wA.alloc X) (Fr.alloc (Fr.refl _ _) X)).2.2.2.2.2.2.2.2.2.2; skip
      go_region_law (first | (refine step_append_nil ERl 38 rfl (.const (.slice none 0 0)) (.tmp 23) 30 rfl i0 (.agg #[.int .u8 0, .int .i64 0, .int .i64 0, .int .i64 0, .int .i64 0, .int .i64 0, .int .u8 0, .bool false, .slice none 0 0]) 80 Try.underlying30 hii hz0 hz1 hz2 rfl wA.heap.size rfl (some ⟨zb, zo, none⟩) c.N c.rk rs rfl HRD1.out HONE.out hN1 hN2 (Nat.le_refl _) ?_; intro A1 c1 w1 own1 gr1; have F1 := ((Fr.refl (fun _ => False) wA).drew).grown gr1 (fun k hk => by cases hk); obtain ⟨k0, k1, k2, k3, k4, k5, k6, k7, k8, k9, k10⟩ := HKEEP.out w1 (F1); have j0 := fun X => (HKEEP.out (w1.alloc X) (Fr.alloc (F1) X)).1; have j1 := fun X => (HKEEP.out (w1.alloc X) (Fr.alloc (F1) X)).2.1; have j2 := fun X => (HKEEP.out (w1.alloc X) (Fr.alloc (F1) X)).2.2.1; have j3 := fun X => (HKEEP.out (w1.alloc X) (Fr.alloc (F1) X)).2.2.2.1; have j4 := fun X => (HKEEP.out (w1.alloc X) (Fr.alloc (F1) X)).2.2.2.2.1; have j5 := fun X => (HKEEP.out (w1.alloc X) (Fr.alloc (F1) X)).2.2.2.2.2.1; have j6 := fun X => (HKEEP.out (w1.alloc X) (Fr.alloc (F1) X)).2.2.2.2.2.2.1; have j7 := fun X => (HKEEP.out (w1.alloc X) (Fr.alloc (F1) X)).2.2.2.2.2.2.2.1; have j8 := fun X => (HKEEP.out (w1.alloc X) (Fr.alloc (F1) X)).2.2.2.2.2.2.2.2.1; have j9 := fun X => (HKEEP.out (w1.alloc X) (Fr.alloc (F1) X)).2.2.2.2.2.2.2.2.2.1; have j10 := fun X => (HKEEP.out (w1.alloc X) (Fr.alloc (F1) X)).2.2.2.2.2.2.2.2.2.2; skip) | (refine step_append_nil ERl 38 rfl (.const (.slice none 0 0)) (.tmp 23) 30 rfl i0 (.agg #[.int .u8 0, .int .i64 0, .int .i64 0, .int .i64 0, .int .i64 0, .int .i64 0, .int .u8 0, .bool false, .slice none 0 0]) 80 Try.underlying30 hii hz0 hz1 hz2 rfl wA.heap.size rfl (some ⟨zb, zo, none⟩) c.N c.rk rs rfl HRD2.out HONE.out hN1 hN2 (HSZ2.out _) ?_; intro A1 c1 w1 own1 gr1; have F1 := (((Fr.refl (fun _ => False) wA).drew).alloc (.cells #[.int .u8 y0, .int .i64 y1, .int .i64 y2, .int .i64 y3, .int .i64 y4, .int .i64 y5, .int .u8 y6, .bool y7, .slice yA yn yc] 38)).grown gr1 (fun k hk => by cases hk); have NEWS := HNEWS.out w1 gr1; obtain ⟨k0, k1, k2, k3, k4, k5, k6, k7, k8, k9, k10⟩ := HKEEP.out w1 (F1); skip) | (refine step_append_one ERl 38 rfl (.tmp 24) (.tmp 29) 30 rfl i0 (.agg #[.int .u8 0, .int .i64 0, .int .i64 0, .int .i64 0, .int .i64 0, .int .i64 0, .int .u8 0, .bool false, .slice none 0 0]) 80 Try.underlying30 hii hz0 hz1 hz2 rfl wA.heap.size (.slice A1 c.N c1) rs rfl (own1.alloc _) ⟨w1.heap.size, 0, none⟩ 1 (⟨y0, y1, y2, y3, y4, y5, y6, y7, yA, yn, yc⟩ : Rl) rfl (lit_cells (W := w1) (cs := [.int .u8 y0, .int .i64 y1, .int .i64 y2, .int .i64 y3, .int .i64 y4, .int .i64 y5, .int .u8 y6, .bool y7, .slice yA yn yc]) rfl) HB5.out hl1 hl2 (Nat.le_trans F1.size (HSZA.out w1 _)) ?_; intro A2 c2 w2 own2 gr2; have F2 := (F1.alloc (.cells #[.int .u8 y0, .int .i64 y1, .int .i64 y2, .int .i64 y3, .int .i64 y4, .int .i64 y5, .int .u8 y6, .bool y7, .slice yA yn yc] 38)).grown gr2 (fun k hk => (own1.blk k hk).1); have G1 := HKEEP.out w2 F2; have g0 := G1.1; have g1 := G1.2.1; skip) | (refine step_append_one ERl 38 rfl (.tmp 24) (.tmp 29) 30 rfl i0 (.agg #[.int .u8 0, .int .i64 0, .int .i64 0, .int .i64 0, .int .i64 0, .int .i64 0, .int .u8 0, .bool false, .slice none 0 0]) 80 Try.underlying30 hii hz0 hz1 hz2 rfl wA.heap.size (.slice A1 c.N c1) rs rfl own1 ⟨wA.heap.size, 0, none⟩ 1 (⟨y0, y1, y2, y3, y4, y5, y6, y7, yA, yn, yc⟩ : Rl) rfl NEWS HB5.out hl1 hl2 F1.size ?_; intro A2 c2 w2 own2 gr2; have F2 := F1.grown gr2 (fun k hk => (own1.blk k hk).1); have G1 := HKEEP.out w2 F2; have g0 := G1.1; have g1 := G1.2.1; skip))
      all_goals
        have B2 := F2.at_ HBA.out (fun x => x)
        have B3 : (w2.setCell ⟨cb, 1, none⟩ (.slice A2 (rs.length + 1) c2)).heap[cb]? = some (.cells #[.slice c.s1 c.s2 c.s3, .slice A2 (rs.length + 1) c2, .slice c.tv c.t c.tk, .int .i64 1, .int .i64 1, .int .i64 1, .int .i64 c.dr, .int .i64 c.pa, .int .i64 c.of_, .bool c.br, .int .i64 c.lg] 34 (0, 0)) := set_at B2 1 _
        have F23 := (Fr.refl (fun k => k = cb) w2).setCell (p := ⟨cb, 1, none⟩) (fun _ => rfl) (.slice A2 (rs.length + 1) c2)
        have O3 := own2.fr F23 (fun k hk e => by have := (own2.blk k hk).1; have := HCB.out; omega)
        have HREL := Lib.hid (And.intro B3 (And.intro O3 ((F2.mono (S' := fun k => k = cb) (fun _ _ x => x.elim)).trans F23 (fun _ _ x => x))))
        clear B2 B3 F23 O3 G1 g0 g1 own2 gr2 own1 gr1
        go_wp2_with fail
        go_meet
        case rel => exact ⟨A2, c2, HREL.out.1, HREL.out.2.1, HREL.out.2.2⟩
    case rest =>
      obtain ⟨A', k', BC2, OW2, F2⟩ := hcut
      generalize hwB : wc = wB at BC2 OW2 F2 ⊢
      clear hwB
      generalize hL : rs.length = L at BC2 OW2 ⊢
      have HL := Lib.hid hL
      have F4B : Fr (fun k => k = cb) w4 wB := (HFA.out.mono (S' := fun k => k = cb) (fun _ _ x => x.elim)).trans F2 (fun _ _ x => x)
      have HF4B := Lib.hid F4B
      have TBo := HMK.out.md.htb.own.fr F4B (fun k hk e => by have := (HMK.out.md.htb.own.blk k hk).2; have := HCB.out.1; omega)
      have hvl := HMK.out.md.htb.vl
      have h6 := HMK.out.t6
      obtain ⟨tg, htv, htg, hzt⟩ := TBo.at0 (by omega)
      have HTG : Hid (w3.heap.size ≤ tg ∧ tg < cb) := Lib.hid ⟨htg, by have := (HMK.out.md.htb.own.blk tg (by rw [htv]; rfl)).2; have := HCB.out.1; omega⟩
      rw [htv] at BC2 TBo
      have RDT : Reads ETr wB (some ⟨tg, 0, none⟩) c.t vs := by
        obtain ⟨A, k, hv, rd, _⟩ := TBo.reads
        injection hv with e1 e2 e3
        rw [e1, e2]; exact rd
      have ROW := (HMK.out.md.htb.row 0 (by omega)).fr F4B (fun k hk e => by have := ((HMK.out.md.htb.row 0 (by omega)).blk k hk).2; have := HCB.out.1; omega)
      have HRB : Hid (∀ k, (Tr.v (vs.getD 0 ETr.z)).ownBlock = some k → k < cb ∧ k ≠ tg) := Lib.hid (fun k hk => ⟨by have := ((HMK.out.md.htb.row 0 (by omega)).blk k hk).2; have := HCB.out.1; omega, fun e => HMK.out.md.htb.apt 0 (by omega) k hk (by rw [htv, e]; rfl)⟩)
      have hok := HMK.out.md.htb.ok 0 (by omega)
      obtain ⟨rw_, hrw⟩ : ∃ y, vs.getD 0 ETr.z = y := ⟨_, rfl⟩
      obtain ⟨rA, rn, rc⟩ := rw_
      have l0 := RDT.tr (k := 0) (by omega) hrw
      rw [Nat.add_zero] at l0
      obtain ⟨l, hl⟩ : ∃ l, tbl.getD 0 [] = l := ⟨_, rfl⟩
      rw [hrw, hl] at ROW
      rw [hrw] at HRB
      rw [hl] at hok
      have hrn : rn = l.length := by
        obtain ⟨A2, c2, hv, -, -⟩ := ROW.reads
        unfold Tr.v at hv
        injection hv
      subst hrn
      have hlen8 : l.length ≤ 8 := Nat.le_trans (pig _ _ hok) (by have := HN8.out; rw [HMK.out.cf.N] at this; exact this.2)
      have hrow' : Own EI 3 wB w3.heap.size (.slice rA l.length rc) l := ROW
      have HROW := Lib.hid hrow'
      have HRB2 : Hid (∀ k, (Value.slice rA l.length rc).ownBlock = some k → k < cb ∧ k ≠ tg) := HRB
      have HBC2 := Lib.hid BC2
      have HOW2 := Lib.hid OW2
      have HFB := Lib.hid F2
      obtain ⟨-, e1, e2, -⟩ := cells11 BC2
      have HL8 : Hid (1 ≤ L ∧ L ≤ 8) := Lib.hid (by have := HN8.out; have := HRL.out; have := HL.out; omega)
      have hL8 := HL8.out
      have hz0' := hzt 0
      have HT6 := Lib.hid h6
      clear BC2 OW2 F2 hL F4B TBo hvl htv htg RDT ROW hok hrow' hrw hl HRB
      go_upto_region 7 with (fail)
      clear e1
      have ht1 : (0 : Int) < (c.t : Int) := by omega
      have ht2 : 0 < c.t := by omega
      have l0' : ∀ X, (wB.alloc X).cell? ⟨tg, 0, none⟩ = some (.slice rA l.length rc) := fun X => (World.cell?_of_block (a := ⟨tg, 0, none⟩) (Below.heap_alloc _ _ _ (Nat.lt_trans HTG.out.2 (lt_of HBC2.out)))).trans l0
      have e2' : ∀ X, (wB.alloc X).cell? ⟨cb, 2, none⟩ = some (.slice (some ⟨tg, 0, none⟩) c.t c.tk) := fun X => (cells11 (alloc_at HBC2.out X)).2.2.1
      have HB2_ : Hid (∀ X, w3.heap.size ≤ (wB.drew.alloc X).heap.size) := Lib.hid (fun X => by have := HTG.out; have := lt_of HBC2.out; simp; omega)
      have HB3_ : Hid (∀ X, cb < (wB.drew.alloc X).heap.size) := Lib.hid (fun X => by have := lt_of HBC2.out; simp; omega)
      have HB4_ : Hid (¬ (Value.slice rA l.length rc).ownBlock = some cb) := Lib.hid (fun h => by have := (HRB2.out _ h).1; omega)
      have HB5_ : Hid (∀ u ∈ EI.enc (L : Int), u.oneCell' = true) := Lib.hid (by intro u hu; simp [EI] at hu; rcases hu with rfl; rfl)
      have HB6_ : Hid (∀ X, tg < (wB.drew.alloc X).heap.size) := Lib.hid (fun X => by have := HTG.out; have := lt_of HBC2.out; simp; omega)
      have HB7_ : Hid (¬ (Value.slice rA l.length rc).ownBlock = some tg) := Lib.hid (fun h => (HRB2.out _ h).2 rfl)
      have HLOAD : Hid (∀ w' : World, w'.heap[tg]? = wB.heap[tg]? → w'.cell? ⟨tg, 0, none⟩ = some (.slice rA l.length rc) ∧ w'.frozen? ⟨tg, 0, none⟩ = false) := Lib.hid (fun w' h => ⟨(World.cell?_of_block (a := ⟨tg, 0, none⟩) h).trans l0, (World.frozen?_of_block (a := ⟨tg, 0, none⟩) h).trans (hzt 0)⟩)
      obtain ⟨i1, hii1, hy0, hy1, hy2⟩ := info_parts (show (Try.prog.info? 3).map (fun i => (i.zero, i.size, i.bytes)) = some (some (.int .i64 0), 1, 8) by kernel_rfl)
      have hl3 : l.length + 1 ≤ maxLen := by unfold maxLen; omega
      have hl4 : (l.length + 1) * 8 ≤ 140737488355328 := by omega
      clear hzt hlen8 hz0'
      go_cut [] (fun wx => wx.heap[cb]? = some (.cells #[.slice c.s1 c.s2 c.s3, .slice A' (L + 1) k', .slice (some ⟨tg, 0, none⟩) c.t c.tk, .int .i64 1, .int .i64 1, .int .i64 1, .int .i64 c.dr, .int .i64 c.pa, .int .i64 c.of_, .bool c.br, .int .i64 c.lg] 34 (0, 0)) ∧ Own ERl 38 wx wA.heap.size (.slice A' (L + 1) k') (rs ++ [⟨y0, y1, y2, y3, y4, y5, y6, y7, yA, yn, yc⟩]) ∧ Fr (fun k => w3.heap.size ≤ k) wB wx)
      case first =>
        go_region_law (refine step_append_one_at EI 3 rfl (.tmp 41) (.tmp 43) 39 rfl i1 (.int .i64 0) 8 Try.underlying39 hii1 hy0 hy1 hy2 rfl w3.heap.size (.slice rA l.length rc) l rfl (HROW.out.drew.alloc _) ⟨wB.heap.size, 0, none⟩ 1 (L : Int) rfl (lit_cells (W := wB.drew) (cs := [.int .i64 (L : Int)]) rfl) HB5_.out hl3 hl4 (HB2_.out _) ?_; intro A2 c2_ w5 hown2 hgrow hat; have B4 := (hgrow.block cb (HB3_.out _) (fun h => HB4_.out h.symm)).trans (alloc_at (w := wB.drew) HBC2.out _); have g2 := (cells11 B4).2.2.1; have L4 := HLOAD.out w5 ((hgrow.block tg (HB6_.out _) (fun h => HB7_.out h.symm)).trans (Below.heap_alloc _ _ _ (Nat.lt_trans HTG.out.2 (lt_of HBC2.out)))); have L40 := L4.1; have L41 := L4.2)
        all_goals
          have B5 := set_far B4 (p := ⟨tg, 0, none⟩) (by have := HTG.out; show cb ≠ tg; omega) (.slice A2 (l.length + 1) c2_)
          have F5 := (((Fr.refl (fun k => w3.heap.size ≤ k) wB).drew.alloc (.cells #[.int .i64 (L : Int)] 3)).grownS hgrow (fun k hk => (HROW.out.blk k hk).1)).setCell (p := ⟨tg, 0, none⟩) (fun _ => HTG.out.1) (.slice A2 (l.length + 1) c2_)
          have FR5 := (((Fr.refl (fun k => k < cb) wB).drew.alloc (.cells #[.int .i64 (L : Int)] 3)).grownS hgrow (fun k hk => (HRB2.out k hk).1)).setCell (p := ⟨tg, 0, none⟩) (fun _ => HTG.out.2) (.slice A2 (l.length + 1) c2_)
          have O5 := HOW2.out.fr FR5 (fun k hk e => by have := (HOW2.out.blk k hk).1; have := HCB.out.2; omega)
          have HREL := Lib.hid (And.intro B5 (And.intro O5 F5))
          clear B5 F5 FR5 O5 B4 g2 L4 L40 L41 hown2 hgrow hat
          go_wp2_with fail
          go_meet
          case rel => exact HREL.out
      case rest =>
        obtain ⟨BC3, OW3, F3_⟩ := hcut
        generalize hwC : wc = wC at BC3 OW3 F3_ ⊢
        clear hwC
        obtain ⟨-, -, -, -, -, -, d6, -⟩ := cells11 BC3
        have z6 := frozen_of BC3 6
        have BD : (wC.setCell ⟨cb, 6, none⟩ (.int .i64 64)).heap[cb]? = some (.cells #[.slice c.s1 c.s2 c.s3, .slice A' (L + 1) k', .slice (some ⟨tg, 0, none⟩) c.t c.tk, .int .i64 1, .int .i64 1, .int .i64 1, .int .i64 64, .int .i64 c.pa, .int .i64 c.of_, .bool c.br, .int .i64 c.lg] 34 (0, 0)) := set_at BC3 6 _
        have FD_ := (Fr.refl (fun k => k = cb) wC).setCell (p := ⟨cb, 6, none⟩) (fun _ => rfl) (.int .i64 64)
        have OD := OW3.fr FD_ (fun k hk e => by have := (OW3.blk k hk).1; have := HCB.out.2; omega)
        have FWD : Fr (fun _ => False) w3 (wC.setCell ⟨cb, 6, none⟩ (.int .i64 64)) := (HMK.out.fr.step (HF4B.out.mono (S' := fun k => w3.heap.size ≤ k) (fun k _ e => by have := HCB.out.1; have := HMK.out.fr.size; omega)) (fun i h => h)).step (F3_.trans FD_ (fun k _ (e : k = cb) => by have := HCB.out.1; have := HMK.out.fr.size; show w3.heap.size ≤ k; omega)) (fun i h => h)
        generalize hwD : wC.setCell ⟨cb, 6, none⟩ (.int .i64 64) = wD at BD OD FWD
        have HWD := Lib.hid FWD
        have HBD2 := Lib.hid BD
        have HOD := Lib.hid OD
        clear BD OD FWD BC3 OW3 F3_ FD_
        go_upto_region 9 with (fail)
        clear z6 d6 hwD e2 e2' l0 l0'
        obtain ⟨e0, e1, e2, e3, e4, e5, e6, e7, e8, e9, e10⟩ := cells11 HBD2.out
        have hpr : 1 ≤ y6 ∧ y6 ≤ 3 := by
          have := HMK.out.pr 0 (by have := HN8.out; omega)
          rw [HR0.out] at this; exact this
        have hRD : Reads ERl wD A' (L + 1) (rs ++ [⟨y0, y1, y2, y3, y4, y5, y6, y7, yA, yn, yc⟩]) := by
          obtain ⟨A, k, hv, rd, _⟩ := HOD.out.reads
          injection hv with e1 e2 e3
          rw [e1, e2]; exact rd
        have hPR : ∀ k, k < L + 1 → 1 ≤ (((rs ++ [⟨y0, y1, y2, y3, y4, y5, y6, y7, yA, yn, yc⟩]) : List Rl).getD k ERl.z).p ∧ (((rs ++ [⟨y0, y1, y2, y3, y4, y5, y6, y7, yA, yn, yc⟩]) : List Rl).getD k ERl.z).p ≤ 3 := fun k hk => by
          by_cases e : k = L
          · subst e; rw [show k = rs.length from HL.out.symm, getD_r]; exact hpr
          · rw [getD_l _ _ _ (by have := HL.out; omega)]
            exact HMK.out.pr k (by have := HL.out; have := HRL.out; omega)
        have hN100 : L + 1 ≤ 100 := by have := HL8.out; omega
        obtain ⟨rs2, hrs2⟩ : ∃ r, (rs ++ [⟨y0, y1, y2, y3, y4, y5, y6, y7, yA, yn, yc⟩]) = r := ⟨_, rfl⟩
        rw [hrs2] at hRD hPR
        have HRR : Hid ((rs2.getD 0 ERl.z).p = y6 ∧ (rs2.getD L ERl.z).p = y6) := Lib.hid ⟨by rw [← hrs2, getD_l _ _ _ (by have := HL8.out; have := HL.out; omega), HR0.out], by rw [← hrs2, show L = rs.length from HL.out.symm, getD_r]⟩
        clear hrs2
        have HC2 : ∃ c2 : Cf, (c2.N = L + 1 ∧ c2.b0 = 1 ∧ c2.b1 = 1 ∧ c2.b2 = 1 ∧ c2.t = c.t) ∧ Calls Try.prog 13 #[.agg #[.slice c.s1 c.s2 c.s3, .slice A' (L + 1) k', .slice (some ⟨tg, 0, none⟩) c.t c.tk, .int .i64 1, .int .i64 1, .int .i64 1, .int .i64 64, .int .i64 c.pa, .int .i64 c.of_, .bool c.br, .int .i64 c.lg]] wD (IkNPost wD c2 rs2) :=
          ⟨⟨c.s1, c.s2, c.s3, A', L + 1, k', some ⟨tg, 0, none⟩, c.t, c.tk, 1, 1, 1, 64, c.pa, c.of_, c.br, c.lg⟩, ⟨rfl, rfl, rfl, rfl, rfl⟩, iknew wD ⟨c.s1, c.s2, c.s3, A', L + 1, k', some ⟨tg, 0, none⟩, c.t, c.tk, 1, 1, 1, 64, c.pa, c.of_, c.br, c.lg⟩ rs2 hRD hPR hN100⟩
        clear hRD hPR hN100
        obtain ⟨c2, hc2, hcall⟩ := HC2
        have HCALL := Lib.hid hcall
        have ha' := bounds_u16 ha
        have ha1 := ha'.1
        have ha2 := ha'.2
        have htri : ∀ i, tri c2.b0 c2.b1 c2.b2 i = 1 := fun i => by
          obtain ⟨h1, h2, h3, h4, -⟩ := hc2
          rw [h2, h3, h4]; unfold tri; split <;> (try split) <;> rfl
        have E1 : ofr c2 rs2 ⟨[], List.replicate c2.N false, 0, 0⟩ (a + 1) 0 true = (true, ⟨[(y6, 0, true, a + 1)], (List.replicate (L + 1) false).set 0 true, 0, 0⟩) := by
          unfold ofr
          rw [htri, hc2.1, show (0 : Int).toNat = 0 from rfl, HRR.out.1, if_neg (by simp)]
          have e : putR (RE.room 1) [] y6 (0, true, a + 1) = (0, [(y6, 0, true, a + 1)]) := by
            unfold putR RE.room bnd hasR; simp; decide
          simp only [e, ↓reduceIte]
        have E2 : ofr c2 rs2 ⟨[(y6, 0, true, a + 1)], (List.replicate (L + 1) false).set 0 true, 0, 0⟩ (a + 1) (L : Int) true = (false, ⟨[(y6, 0, true, a + 1)], (List.replicate (L + 1) false).set 0 true, a + 1, 1⟩) := by
          unfold ofr
          have hL1 := HL8.out
          have e0 : ((List.replicate (L + 1) false).set 0 true).getD L false = false := by
            rw [getD_set_ne _ _ _ _ _ (by omega)]
            simp [List.getD_eq_getElem?_getD, List.getElem?_replicate]
          rw [htri, hc2.1, Int.toNat_natCast, HRR.out.2]
          simp only [e0]
          rw [if_neg (by simp; omega)]
          have e : putR (RE.room 1) [(y6, 0, true, a + 1)] y6 ((L : Int), true, a + 1) = (6, [(y6, 0, true, a + 1)]) := by
            unfold putR RE.room bnd hasR
            have : ¬ (0 : Int) = (L : Int) := by omega
            simp [this]; decide
          simp only [e]
          rfl
        have hsn0 : ∀ x y : Int, x ≤ y → sn x y = 0 := fun x y h => by unfold sn; rw [if_pos h]
        have hsn1 : ∀ x d : Int, 0 < d → d ≤ 100 → sn (x + d) x = d := fun x d h h2 => by unfold sn; rw [if_neg (by omega), if_neg (by omega)]; omega
        have h6 := HT6.out
        have O0 : ovr c2 ⟨[], List.replicate c2.N false, 0, 0⟩ (a + 1) = false := by unfold ovr; simp
        have O1 : ovr c2 ⟨[(y6, 0, true, a + 1)], (List.replicate (L + 1) false).set 0 true, 0, 0⟩ (a + 1) = false := by unfold ovr; simp
        have O2 : ovr c2 ⟨[(y6, 0, true, a + 1)], (List.replicate (L + 1) false).set 0 true, a + 1, 1⟩ (a + 1) = true := by
          unfold ovr
          refine decide_eq_true ⟨by show (0 : Int) < 1; decide, ?_⟩
          show sn (a + 1) (a + 1) < _
          rw [hsn0 _ _ (Int.le_refl _), hc2.2.2.2.2]; omega
        have O3 : ovr c2 ⟨[(y6, 0, true, a + 1)], (List.replicate (L + 1) false).set 0 true, a + 1, 1⟩ (a + 1 + (c.t : Int) - 1) = true := by
          unfold ovr
          refine decide_eq_true ⟨by show (0 : Int) < 1; decide, ?_⟩
          show sn (a + 1 + (c.t : Int) - 1) (a + 1) < _
          rw [hc2.2.2.2.2]
          by_cases e : c.t = 1
          · rw [hsn0 _ _ (by omega)]; omega
          · rw [show a + 1 + (c.t : Int) - 1 = a + 1 + ((c.t : Int) - 1) from by omega, hsn1 _ _ (by omega) (by omega)]; omega
        have O4 : ovr c2 ⟨[(y6, 0, true, a + 1)], (List.replicate (L + 1) false).set 0 true, a + 1, 1⟩ (a + 1 + (c.t : Int)) = false := by
          unfold ovr
          refine decide_eq_false fun h => ?_
          have h2 : sn (a + 1 + (c.t : Int)) (a + 1) < (c2.t : Int) := h.2
          rw [hc2.2.2.2.2, hsn1 _ _ (by omega) (by omega)] at h2
          omega
        obtain ⟨M0, hM0⟩ : ∃ M : Md, ⟨[], List.replicate c2.N false, 0, 0⟩ = M := ⟨_, rfl⟩
        obtain ⟨M1, hM1⟩ : ∃ M : Md, ⟨[(y6, 0, true, a + 1)], (List.replicate (L + 1) false).set 0 true, 0, 0⟩ = M := ⟨_, rfl⟩
        obtain ⟨M2, hM2⟩ : ∃ M : Md, ⟨[(y6, 0, true, a + 1)], (List.replicate (L + 1) false).set 0 true, a + 1, 1⟩ = M := ⟨_, rfl⟩
        have HMR : Hid (M0.ref = 0 ∧ M1.ref = 0 ∧ M2.ref = 1 ∧ M0.last = 0 ∧ M1.last = 0 ∧ M2.last = a + 1) := Lib.hid ⟨by rw [← hM0], by rw [← hM1], by rw [← hM2], by rw [← hM0], by rw [← hM1], by rw [← hM2]⟩
        rw [hM0] at E1 O0
        rw [hM1] at E1 E2 O1
        rw [hM2] at E2 O2 O3 O4
        have HM0 := Lib.hid hM0
        have HE1 := Lib.hid E1
        have HE2 := Lib.hid E2
        have HO0 := Lib.hid O0
        have HO1 := Lib.hid O1
        have HO2 := Lib.hid O2
        have HO3 := Lib.hid O3
        have HO4 := Lib.hid O4
        have HAB : Hid (0 ≤ a ∧ a ≤ 65535) := Lib.hid ⟨ha1, ha2⟩
        clear hc2 hcall htri E1 E2 O0 O1 O2 O3 O4 hM0 hM1 hM2 hsn0 hsn1 hpr HR0 HRR
        go_wp2_with fail
        refine HCALL.out.mono ?_
        rintro e x3 ⟨ib, q, qs, tbk, rfl, I3, F3, hup⟩
        rw [HM0.out] at I3
        have HI3 := Lib.hid I3
        have HX3 := Lib.hid F3
        have HUP := Lib.hid hup
        clear I3 F3 hup e2 e0 e1 e3 e4 e5 e6 e7 e8 e9 e10
        have HBX3 : Hid (∀ w', Fr (fun k => inI ib q qs tbk k) x3 w' → True) := Lib.hid (fun _ _ => trivial)
        have c0 : ∀ k : Nat, True := fun _ => trivial
        clear c0 HBX3
        have HQ4 := Lib.hid (ikover x3 ib q qs tbk c2 rs2 M0 HI3.out (a + 1) (by have := HAB.out; have := HMR.out; have := HT6.out; unfold BigI; omega) (by have := HAB.out; have := HMR.out; have := HT6.out; unfold BigI; omega))
        rw [HO0.out] at HQ4
        go_wp2_with fail
        refine HQ4.out.mono ?_
        rintro e x4 ⟨rfl, F4⟩
        have HI4 := Lib.hid (HI3.out.calm F4)
        have HX4 := Lib.hid (HX3.out.step F4 nop)
        clear F4
        have HQ5 := Lib.hid (ikoffer x4 ib q qs tbk c2 rs2 M0 HI4.out (a + 1) 0 true (by have := HMR.out; omega))
        rw [HE1.out] at HQ5
        go_wp2_with fail
        refine HQ5.out.mono ?_
        rintro e x5 ⟨rfl, I5, F5⟩
        have HI5 := Lib.hid I5
        have HX5 := Lib.hid (HX4.out.step F5 HUP.out)
        clear I5 F5
        have HQ6 := Lib.hid (ikover x5 ib q qs tbk c2 rs2 M1 HI5.out (a + 1) (by have := HAB.out; have := HMR.out; have := HT6.out; unfold BigI; omega) (by have := HAB.out; have := HMR.out; have := HT6.out; unfold BigI; omega))
        rw [HO1.out] at HQ6
        go_wp2_with fail
        refine HQ6.out.mono ?_
        rintro e x6 ⟨rfl, F6⟩
        have HI6 := Lib.hid (HI5.out.calm F6)
        have HX6 := Lib.hid (HX5.out.step F6 nop)
        clear F6
        have HQ7 := Lib.hid (ikoffer x6 ib q qs tbk c2 rs2 M1 HI6.out (a + 1) (L : Int) true (by have := HMR.out; omega))
        rw [HE2.out] at HQ7
        go_wp2_with fail
        refine HQ7.out.mono ?_
        rintro e x7 ⟨rfl, I7, F7⟩
        have HI7 := Lib.hid I7
        have HX7 := Lib.hid (HX6.out.step F7 HUP.out)
        clear I7 F7
        obtain ⟨-, -, e2, -⟩ := cells11 (HX7.out.at_ HBD2.out (fun x => x))
        have HQ8 := Lib.hid (ikover x7 ib q qs tbk c2 rs2 M2 HI7.out (a + 1) (by have := HAB.out; have := HMR.out; have := HT6.out; unfold BigI; omega) (by have := HAB.out; have := HMR.out; have := HT6.out; unfold BigI; omega))
        rw [HO2.out] at HQ8
        go_wp2_with fail
        refine HQ8.out.mono ?_
        rintro e x8 ⟨rfl, F8⟩
        have HI8 := Lib.hid (HI7.out.calm F8)
        have HX8 := Lib.hid (HX7.out.step F8 nop)
        clear F8
        have HQ9 := Lib.hid (ikover x8 ib q qs tbk c2 rs2 M2 HI8.out (a + 1 + (c.t : Int) - 1) (by have := HAB.out; have := HMR.out; have := HT6.out; unfold BigI; omega) (by have := HAB.out; have := HMR.out; have := HT6.out; unfold BigI; omega))
        rw [HO3.out] at HQ9
        go_wp2_with fail
        refine HQ9.out.mono ?_
        rintro e x9 ⟨rfl, F9⟩
        have HI9 := Lib.hid (HI8.out.calm F9)
        have HX9 := Lib.hid (HX8.out.step F9 nop)
        clear F9
        have HQ10 := Lib.hid (ikover x9 ib q qs tbk c2 rs2 M2 HI9.out (a + 1 + (c.t : Int)) (by have := HAB.out; have := HMR.out; have := HT6.out; unfold BigI; omega) (by have := HAB.out; have := HMR.out; have := HT6.out; unfold BigI; omega))
        rw [HO4.out] at HQ10
        go_wp2_with fail
        refine HQ10.out.mono ?_
        rintro e x10 ⟨rfl, F10⟩
        have HI10 := Lib.hid (HI9.out.calm F10)
        have HX10 := Lib.hid (HX9.out.step F10 nop)
        clear F10
        have HQ11 := Lib.hid (ikrefused x10 ib q qs tbk c2 rs2 M2 HI10.out)
        rw [show M2.ref = 1 from HMR.out.2.2.1] at HQ11
        go_wp2_with fail
        refine HQ11.out.mono ?_
        rintro e x11 ⟨rfl, F11⟩
        have HX11 := Lib.hid (HX10.out.step F11 nop)
        clear F11
        go_wp2_with fail
        go_ret
        exact ⟨rfl, (HF1.out.step ((G_w3.out.step HWD.out nop).step HX11.out nop) nop).below⟩

end Go.Proofs.Ytahddolplklopaa
