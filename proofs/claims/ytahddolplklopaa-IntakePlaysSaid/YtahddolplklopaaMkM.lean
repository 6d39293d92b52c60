/- MkM. -/
import Derived.Test.YtahddolplklopaaChecked
import Derived.WalkKit
import Derived.Laws.IdiomCopy
import Derived.Deep.QuietTactic
import Derived.BigQuiet
import Derived.Lib.Hide
import Derived.OpenShut
import Derived.StillTailTactics
import Derived.Deep.RegionWith
import Derived.Deep.RegionLaw
import Derived.Deep.Slices
import Derived.Deep.RegionHeld3
import Derived.OwnWalk
import Derived.Deep.DeepCutAuto
import Derived.Deep.CutRange
import Derived.Test.YtahddolplklopaaBase
import Derived.Test.YtahddolplklopaaCalm
import Derived.Test.YtahddolplklopaaCalmT
import Derived.Test.YtahddolplklopaaCel
import Derived.Test.YtahddolplklopaaApp
import Derived.Maps.AppendAt
import Derived.Test.YtahddolplklopaaMkD
import Derived.BigRegion
import Derived.Deep.CutBlock
import Derived.Test.YtahddolplklopaaMkP
import Derived.Test.YtahddolplklopaaMkZ
import Derived.Test.YtahddolplklopaaMkY
namespace Go.Proofs.Ytahddolplklopaa
open Go.RowKit
set_option linter.unusedVariables false
set_option linter.unusedSimpArgs false

set_option maxRecDepth 100000 in
set_option maxHeartbeats 200000000 in
theorem Make_any (W : World) (A0 A1 : Option Addr) (n0 k0 n1 k1 : Nat) (gb gd gp go_ : Int) (gk : Bool) (gl : Int) (ls : List Ln) (ss : List (List Int)) (sl : List Int) (hd : Dft W A0 n0 ls ss A1 n1 sl) (hb : byte gb ∧ byte gd ∧ byte gp ∧ byte go_ ∧ byte gl) :
    Calls Try.prog 12 #[.agg #[.slice A0 n0 k0, .slice A1 n1 k1, .int .u8 gb, .int .u8 gd, .int .u8 gp, .int .u8 go_, .bool gk, .int .u8 gl]] W (MkPost W n0 ls ss gb gd gp go_ gk gl) := by
  have BD := alloc_at (alloc_at (alloc_is (w := W) (n := W.heap.size) (.cells #[.slice A0 n0 k0, .slice A1 n1 k1, .int .u8 gb, .int .u8 gd, .int .u8 gp, .int .u8 go_, .bool gk, .int .u8 gl] 25) rfl) (.cells #[.slice none 0 0, .slice none 0 0, .slice none 0 0, .int .i64 0, .int .i64 0, .int .i64 0, .int .i64 0, .int .i64 0, .int .i64 0, .bool false, .int .i64 0] 34)) (.cells #[.int .i64 (-100), .int .i64 300, .int .i64 0, .int .i64 250, .int .i64 (-2147483648), .int .i64 2147483647] 73)
  have BZ := alloc_at (alloc_is (w := W.alloc (.cells #[.slice A0 n0 k0, .slice A1 n1 k1, .int .u8 gb, .int .u8 gd, .int .u8 gp, .int .u8 go_, .bool gk, .int .u8 gl] 25)) (n := W.heap.size + 1) (.cells #[.slice none 0 0, .slice none 0 0, .slice none 0 0, .int .i64 0, .int .i64 0, .int .i64 0, .int .i64 0, .int .i64 0, .int .i64 0, .bool false, .int .i64 0] 34) (by simp)) (.cells #[.int .i64 (-100), .int .i64 300, .int .i64 0, .int .i64 250, .int .i64 (-2147483648), .int .i64 2147483647] 73)
  have BS := alloc_is (w := (W.alloc (.cells #[.slice A0 n0 k0, .slice A1 n1 k1, .int .u8 gb, .int .u8 gd, .int .u8 gp, .int .u8 go_, .bool gk, .int .u8 gl] 25)).alloc (.cells #[.slice none 0 0, .slice none 0 0, .slice none 0 0, .int .i64 0, .int .i64 0, .int .i64 0, .int .i64 0, .int .i64 0, .int .i64 0, .bool false, .int .i64 0] 34)) (n := W.heap.size + 1 + 1) (.cells #[.int .i64 (-100), .int .i64 300, .int .i64 0, .int .i64 250, .int .i64 (-2147483648), .int .i64 2147483647] 73) (by simp)
  have F0 := (((Fr.refl (fun _ => False) W).alloc (.cells #[.slice A0 n0 k0, .slice A1 n1 k1, .int .u8 gb, .int .u8 gd, .int .u8 gp, .int .u8 go_, .bool gk, .int .u8 gl] 25)).alloc (.cells #[.slice none 0 0, .slice none 0 0, .slice none 0 0, .int .i64 0, .int .i64 0, .int .i64 0, .int .i64 0, .int .i64 0, .int .i64 0, .bool false, .int .i64 0] 34)).alloc (.cells #[.int .i64 (-100), .int .i64 300, .int .i64 0, .int .i64 250, .int .i64 (-2147483648), .int .i64 2147483647] 73)
  have hsz : (((W.alloc (.cells #[.slice A0 n0 k0, .slice A1 n1 k1, .int .u8 gb, .int .u8 gd, .int .u8 gp, .int .u8 go_, .bool gk, .int .u8 gl] 25)).alloc (.cells #[.slice none 0 0, .slice none 0 0, .slice none 0 0, .int .i64 0, .int .i64 0, .int .i64 0, .int .i64 0, .int .i64 0, .int .i64 0, .bool false, .int .i64 0] 34)).alloc (.cells #[.int .i64 (-100), .int .i64 300, .int .i64 0, .int .i64 250, .int .i64 (-2147483648), .int .i64 2147483647] 73)).heap.size = W.heap.size + 1 + 1 + 1 := by simp
  generalize hw0 : ((W.alloc (.cells #[.slice A0 n0 k0, .slice A1 n1 k1, .int .u8 gb, .int .u8 gd, .int .u8 gp, .int .u8 go_, .bool gk, .int .u8 gl] 25)).alloc (.cells #[.slice none 0 0, .slice none 0 0, .slice none 0 0, .int .i64 0, .int .i64 0, .int .i64 0, .int .i64 0, .int .i64 0, .int .i64 0, .bool false, .int .i64 0] 34)).alloc (.cells #[.int .i64 (-100), .int .i64 300, .int .i64 0, .int .i64 250, .int .i64 (-2147483648), .int .i64 2147483647] 73) = w0 at BD BZ BS F0 hsz
  have Bz1 : (w0.alloc (.cells #[.slice none 0 0, .slice none 0 0, .slice none 0 0, .int .i64 0, .int .i64 0, .int .i64 0, .int .i64 0, .int .i64 0, .int .i64 0, .bool false, .int .i64 0] 34)).heap[(W.heap.size + 1 + 1 + 1)]? = some (.cells #[.slice none 0 0, .slice none 0 0, .slice none 0 0, .int .i64 0, .int .i64 0, .int .i64 0, .int .i64 0, .int .i64 0, .int .i64 0, .bool false, .int .i64 0] 34 (0, 0)) := alloc_is _ hsz.symm
  have Fz1 := (Fr.refl (fun _ => False) w0).alloc (.cells #[.slice none 0 0, .slice none 0 0, .slice none 0 0, .int .i64 0, .int .i64 0, .int .i64 0, .int .i64 0, .int .i64 0, .int .i64 0, .bool false, .int .i64 0] 34)
  generalize hwm1 : w0.alloc (.cells #[.slice none 0 0, .slice none 0 0, .slice none 0 0, .int .i64 0, .int .i64 0, .int .i64 0, .int .i64 0, .int .i64 0, .int .i64 0, .bool false, .int .i64 0] 34) = wm1 at Bz1 Fz1
  obtain ⟨c1_0, c1_1, c1_2, c1_3, c1_4, c1_5, c1_6, c1_7, c1_8, c1_9, c1_10⟩ := cells11 Bz1
  have z1_0 := frozen_of Bz1 0
  have z1_1 := frozen_of Bz1 1
  have z1_2 := frozen_of Bz1 2
  have z1_3 := frozen_of Bz1 3
  have z1_4 := frozen_of Bz1 4
  have z1_5 := frozen_of Bz1 5
  have z1_6 := frozen_of Bz1 6
  have z1_7 := frozen_of Bz1 7
  have z1_8 := frozen_of Bz1 8
  have z1_9 := frozen_of Bz1 9
  have z1_10 := frozen_of Bz1 10
  have B1 := put11y (y0 := .slice (some ⟨W.heap.size + 1 + 1, 0, none⟩) 3 3) (y1 := .slice none 0 0) (y2 := .slice none 0 0) (y3 := .int .i64 0) (y4 := .int .i64 0) (y5 := .int .i64 0) (y6 := .int .i64 0) (y7 := .int .i64 0) (y8 := .int .i64 0) (y9 := .bool false) (y10 := .int .i64 0) Bz1
  have Fo1 := (Fr.refl (fun i => i = (W.heap.size + 1 + 1 + 1)) wm1).put11 (b := (W.heap.size + 1 + 1 + 1)) (fun _ => rfl) (.slice (some ⟨W.heap.size + 1 + 1, 0, none⟩) 3 3) (.slice none 0 0) (.slice none 0 0) (.int .i64 0) (.int .i64 0) (.int .i64 0) (.int .i64 0) (.int .i64 0) (.int .i64 0) (.bool false) (.int .i64 0)
  generalize hwo1 : (((((((((((wm1.setCell ⟨(W.heap.size + 1 + 1 + 1), 0, none⟩ (.slice (some ⟨W.heap.size + 1 + 1, 0, none⟩) 3 3)).setCell ⟨(W.heap.size + 1 + 1 + 1), 1, none⟩ (.slice none 0 0)).setCell ⟨(W.heap.size + 1 + 1 + 1), 2, none⟩ (.slice none 0 0)).setCell ⟨(W.heap.size + 1 + 1 + 1), 3, none⟩ (.int .i64 0)).setCell ⟨(W.heap.size + 1 + 1 + 1), 4, none⟩ (.int .i64 0)).setCell ⟨(W.heap.size + 1 + 1 + 1), 5, none⟩ (.int .i64 0)).setCell ⟨(W.heap.size + 1 + 1 + 1), 6, none⟩ (.int .i64 0)).setCell ⟨(W.heap.size + 1 + 1 + 1), 7, none⟩ (.int .i64 0)).setCell ⟨(W.heap.size + 1 + 1 + 1), 8, none⟩ (.int .i64 0)).setCell ⟨(W.heap.size + 1 + 1 + 1), 9, none⟩ (.bool false)).setCell ⟨(W.heap.size + 1 + 1 + 1), 10, none⟩ (.int .i64 0)) = wo1 at B1 Fo1
  have FF1 := Fz1.trans Fo1 (fun i hi (h : i = (W.heap.size + 1 + 1 + 1)) => by omega)
  have hsz1 : wo1.heap.size = W.heap.size + 4 := by rw [← hwo1]; simp [World.setCell, ← hwm1, hsz]
  have HDW := Lib.hid hd
  have HD := Lib.hid (hd.calm (F0.step FF1 nop))
  have HBD := Lib.hid (FF1.at_ BD (fun x => x))
  have HBZ := Lib.hid (FF1.at_ BZ (fun x => x))
  have HBS := Lib.hid (FF1.at_ BS (fun x => x))
  have HF1 := Lib.hid (F0.step FF1 nop)
  have HBC := Lib.hid B1
  have HSZ := Lib.hid hsz1
  have HBY := Lib.hid hb
  clear hd BD BZ BS B1 FF1 F0 hsz1 hb
  go_enter Try.func12, Try.ntmps12
  go_upto_block 0 with (fail)
  clear hw0
  clear c1_0 z1_0 c1_1 z1_1 c1_2 z1_2 c1_3 z1_3 c1_4 z1_4 c1_5 z1_5 c1_6 z1_6 c1_7 z1_7 c1_8 z1_8 c1_9 z1_9 c1_10 z1_10 Bz1 Fz1 Fo1 hwm1 hwo1
  clear hsz
  generalize hcb : W.heap.size + 1 + 1 + 1 = cb at HBC ⊢
  generalize hsb : W.heap.size + 1 + 1 = sb at HBC HBS ⊢
  generalize hrb : W.heap.size + 1 = rb at HBZ ⊢
  generalize hbd : W.heap.size = bd at HBD ⊢
  have HE : Hid (rb = bd + 1 ∧ sb = bd + 2 ∧ cb = bd + 3 ∧ W.heap.size = bd ∧ wo1.heap.size = bd + 4) := Lib.hid ⟨by omega, by omega, by omega, hbd, by have := HSZ.out; omega⟩
  clear hcb hsb hrb hbd HSZ
  have HLN := Lib.hid HD.out.rd.1
  go_cut [4] (fun s4 wx => MkR wo1 cb sb (bd + 4) ls ss n0 (nRul n0) wx)
  case first =>
    go_wp2_with fail
    go_loopw [4] (fun i wr => ∃ j : Nat, i = .int .i64 j ∧ MkR wo1 cb sb (bd + 4) ls ss n0 j wr) (fun i _ => 10 - (intOf i).toNat)
    case atStart => exact ⟨0, rfl, none, 0, [], Nat.zero_le _, HBC.out, ⟨rfl, Own.nil _ _ _ _, fun m hm => absurd hm (Nat.not_lt_zero _), fun m hm => absurd hm (Nat.not_lt_zero _), fun m hm => absurd hm (Nat.not_lt_zero _)⟩, Fr.refl _ _⟩
    case round =>
      obtain ⟨j, rfl, rv, rk, rs, hj, BC, MR, Fj⟩ := hrel
      have HBCj := Lib.hid BC
      have HMR := Lib.hid MR
      have HFj := Lib.hid Fj
      obtain ⟨q0, q1, q2, q3, q4, q5, q6, q7⟩ := cells8 (Fj.at_ HBD.out (fun e => by have := HE.out; omega))
      clear BC MR Fj
      by_cases hC : j < nRul n0
      · have hC8 : j < 8 := by unfold nRul at hC; split at hC <;> (try split at hC) <;> omega
        have hC0 : j < n0 ∨ j = 0 := by unfold nRul at hC; split at hC <;> (try split at hC) <;> omega
        go_upto_region 3 with (fail)
        go_cut [35] (fun s35 wx => s35 = .bool true ∧ wx = wr)
        case first =>
          by_cases h1 : j < n0
          · have h1' : (j : Int) < (n0 : Int) := by omega
            have h2' : (j : Int) < 8 := by omega
            go_wp2_with fail
            go_meet
            case rel => exact ⟨rfl, rfl⟩
          · have h1' : ¬ (j : Int) < (n0 : Int) := by omega
            have h3' : ((j : Int) == 0) = true := by simp; omega
            go_wp2_with fail
            go_meet
            case rel => exact ⟨by simp [h3'], rfl⟩
        case rest =>
          obtain ⟨hs35, hwx⟩ := hcut
          obtain rfl := hwx.symm
          obtain ⟨y, hy⟩ : ∃ y, ls.getD j ELn.z = y := ⟨_, rfl⟩
          obtain ⟨y0, y1, y2, y3, y4, y5, y6, y7, yA, yn, yc⟩ := y
          have HYY := Lib.hid hy
          clear hy
          subst hs35
          have HYX : Hid (¬ j < n0 → (y0 = 0 ∧ y1 = 0 ∧ y2 = 0 ∧ y3 = 0) ∧ (y4 = 0 ∧ y5 = 0 ∧ y6 = 0 ∧ y7 = false) ∧ yA = none ∧ yn = 0 ∧ yc = 0) := Lib.hid (fun h => by
            have e := HYY.out
            rw [List.getD_eq_getElem?_getD, List.getElem?_eq_none (by rw [HLN.out]; omega)] at e
            simp only [Option.getD, ELn, Ln.mk.injEq] at e
            obtain ⟨a0, a1, a2, a3, a4, a5, a6, a7, a8, a9, a10⟩ := e
            exact ⟨⟨a0.symm, a1.symm, a2.symm, a3.symm⟩, ⟨a4.symm, a5.symm, a6.symm, a7.symm⟩, a8.symm, a9.symm, a10.symm⟩)
          have Bx := alloc_is (w := wr) (n := wr.heap.size) (.cells #[.int .u8 0, .int .u8 0, .int .u8 0, .int .u8 0, .int .u8 0, .int .u8 0, .int .u8 0, .bool false, .slice none 0 0] 71) rfl
          have Fx := (Fr.refl (fun _ => False) wr).alloc (.cells #[.int .u8 0, .int .u8 0, .int .u8 0, .int .u8 0, .int .u8 0, .int .u8 0, .int .u8 0, .bool false, .slice none 0 0] 71)
          generalize hwx : wr.alloc (.cells #[.int .u8 0, .int .u8 0, .int .u8 0, .int .u8 0, .int .u8 0, .int .u8 0, .int .u8 0, .bool false, .slice none 0 0] 71) = wx at Bx Fx
          have HBx := Lib.hid Bx
          have HFx := Lib.hid Fx
          clear Bx Fx
          obtain ⟨q0, q1, q2, q3, q4, q5, q6, q7⟩ := cells8 ((HFj.out.trans HFx.out (fun _ _ x => x.elim)).at_ HBD.out (fun e => by have := HE.out; omega))
          go_upto_if 42 with (fail)
          go_cut [] (fun wz => wz.heap[wr.heap.size]? = some (.cells #[.int .u8 y0, .int .u8 y1, .int .u8 y2, .int .u8 y3, .int .u8 y4, .int .u8 y5, .int .u8 y6, .bool y7, .slice yA yn yc] 71 (0, 0)) ∧ Fr (fun _ => False) wr wz)
          case first =>
            by_cases h1 : j < n0
            · have h1' : (j : Int) < (n0 : Int) := by omega
              have rz := HD.out.rd.fr (HFj.out.trans HFx.out (fun _ _ x => x.elim)) (fun ad ha e => by have := HE.out; have h2 := rd_lt (HDW.out.rd) ha (by omega); omega)
              obtain ⟨zb, zo, rfl, hzb⟩ := rz.plain (by omega)
              obtain ⟨l0, l1, l2, l3, l4, l5, l6, l7, l8⟩ := rz.ln h1 HYY.out
              obtain ⟨c0, c1, c2, c3, c4, c5, c6, c7, c8⟩ := cells9 HBx.out
              have z0 := frozen_of HBx.out 0
              have z1 := frozen_of HBx.out 1
              have z2 := frozen_of HBx.out 2
              have z3 := frozen_of HBx.out 3
              have z4 := frozen_of HBx.out 4
              have z5 := frozen_of HBx.out 5
              have z6 := frozen_of HBx.out 6
              have z7 := frozen_of HBx.out 7
              have z8 := frozen_of HBx.out 8
              have By := put9 (y0 := .int .u8 y0) (y1 := .int .u8 y1) (y2 := .int .u8 y2) (y3 := .int .u8 y3) (y4 := .int .u8 y4) (y5 := .int .u8 y5) (y6 := .int .u8 y6) (y7 := .bool y7) (y8 := .slice yA yn yc) HBx.out
              have Fy := HFx.out.put9 (b := wr.heap.size) (fun h => absurd h (Nat.lt_irrefl _)) (.int .u8 y0) (.int .u8 y1) (.int .u8 y2) (.int .u8 y3) (.int .u8 y4) (.int .u8 y5) (.int .u8 y6) (.bool y7) (.slice yA yn yc)
              generalize hwy : (((((((((wx.setCell ⟨wr.heap.size, 0, none⟩ (.int .u8 y0)).setCell ⟨wr.heap.size, 1, none⟩ (.int .u8 y1)).setCell ⟨wr.heap.size, 2, none⟩ (.int .u8 y2)).setCell ⟨wr.heap.size, 3, none⟩ (.int .u8 y3)).setCell ⟨wr.heap.size, 4, none⟩ (.int .u8 y4)).setCell ⟨wr.heap.size, 5, none⟩ (.int .u8 y5)).setCell ⟨wr.heap.size, 6, none⟩ (.int .u8 y6)).setCell ⟨wr.heap.size, 7, none⟩ (.bool y7)).setCell ⟨wr.heap.size, 8, none⟩ (.slice yA yn yc)) = wy at By Fy
              have HREL := Lib.hid (And.intro By Fy)
              clear rz By Fy
              go_wp2_with fail
              go_meet
              case rel => exact HREL.out
            · have h1' : ¬ (j : Int) < (n0 : Int) := by omega
              go_wp2_with fail
              go_meet
              case rel =>
                obtain ⟨⟨rfl, rfl, rfl, rfl⟩, ⟨rfl, rfl, rfl, rfl⟩, rfl, rfl, rfl⟩ := HYX.out h1
                exact ⟨HBx.out, HFx.out⟩
          case rest =>
            obtain ⟨Bx, Fx⟩ := hcut
            clear q0 q1 q2 q3 q4 q5 q6 q7
            generalize hwz : wc = wz at Bx Fx ⊢
            clear hwz
            have HBx := Lib.hid Bx
            have HFx := Lib.hid Fx
            obtain ⟨x0, x1, x2, x3, x4, x5, x6, x7, x8⟩ := cells9 Bx
            clear Bx Fx
            have hyb : Ln.wf ⟨y0, y1, y2, y3, y4, y5, y6, y7, yA, yn, yc⟩ := by
              by_cases h1 : j < n0
              · rw [← HYY.out]
                refine HD.out.lw _ ?_
                rw [List.getD_eq_getElem?_getD, List.getElem?_eq_getElem (by rw [HLN.out]; exact h1)]
                exact List.getElem_mem _
              · obtain ⟨⟨rfl, rfl, rfl, rfl⟩, ⟨rfl, rfl, rfl, rfl⟩, rfl, rfl, rfl⟩ := HYX.out h1
                unfold Ln.wf byte; simp
            unfold Ln.wf byte at hyb
            obtain ⟨⟨t0, t0'⟩, ⟨t1, t1'⟩, ⟨t2, t2'⟩, ⟨t3, t3'⟩, ⟨t4, t4'⟩, ⟨t5, t5'⟩, t6, t6'⟩ := hyb
            simp only at t0 t0' t1 t1' t2 t2' t3 t3' t4 t4' t5 t5' t6 t6'
            have HBB := Lib.hid (And.intro (And.intro t0 t0') (And.intro (And.intro t1 t1') (And.intro (And.intro t2 t2') (And.intro (And.intro t3 t3') (And.intro (And.intro t4 t4') (And.intro (And.intro t5 t5') (And.intro t6 t6')))))))
            have Bz6 : (wz.alloc (.cells #[.int .u8 0, .int .i64 0, .int .i64 0, .int .i64 0, .int .i64 0, .int .i64 0, .int .u8 0, .bool false, .slice none 0 0] 38)).heap[wz.heap.size]? = some (.cells #[.int .u8 0, .int .i64 0, .int .i64 0, .int .i64 0, .int .i64 0, .int .i64 0, .int .u8 0, .bool false, .slice none 0 0] 38 (0, 0)) := alloc_is _ rfl
            have Fz6 := (Fr.refl (fun _ => False) wz).alloc (.cells #[.int .u8 0, .int .i64 0, .int .i64 0, .int .i64 0, .int .i64 0, .int .i64 0, .int .u8 0, .bool false, .slice none 0 0] 38)
            generalize hwm6 : wz.alloc (.cells #[.int .u8 0, .int .i64 0, .int .i64 0, .int .i64 0, .int .i64 0, .int .i64 0, .int .u8 0, .bool false, .slice none 0 0] 38) = wm6 at Bz6 Fz6
            obtain ⟨c6_0, c6_1, c6_2, c6_3, c6_4, c6_5, c6_6, c6_7, c6_8⟩ := cells9 Bz6
            have z6_0 := frozen_of Bz6 0
            have z6_1 := frozen_of Bz6 1
            have z6_2 := frozen_of Bz6 2
            have z6_3 := frozen_of Bz6 3
            have z6_4 := frozen_of Bz6 4
            have z6_5 := frozen_of Bz6 5
            have z6_6 := frozen_of Bz6 6
            have z6_7 := frozen_of Bz6 7
            have z6_8 := frozen_of Bz6 8
            have B6 := put9 (y0 := .int .u8 (y0 % 6 + 1)) (y1 := .int .i64 (y1 % 3)) (y2 := .int .i64 0) (y3 := .int .i64 0) (y4 := .int .i64 (y4 % 8)) (y5 := .int .i64 0) (y6 := .int .u8 (y6 % 3 + 1)) (y7 := .bool y7) (y8 := .slice none 0 0) Bz6
            have Fo6 := (Fr.refl (fun i => i = wz.heap.size) wm6).put9 (b := wz.heap.size) (fun _ => rfl) (.int .u8 (y0 % 6 + 1)) (.int .i64 (y1 % 3)) (.int .i64 0) (.int .i64 0) (.int .i64 (y4 % 8)) (.int .i64 0) (.int .u8 (y6 % 3 + 1)) (.bool y7) (.slice none 0 0)
            generalize hwo6 : (((((((((wm6.setCell ⟨wz.heap.size, 0, none⟩ (.int .u8 (y0 % 6 + 1))).setCell ⟨wz.heap.size, 1, none⟩ (.int .i64 (y1 % 3))).setCell ⟨wz.heap.size, 2, none⟩ (.int .i64 0)).setCell ⟨wz.heap.size, 3, none⟩ (.int .i64 0)).setCell ⟨wz.heap.size, 4, none⟩ (.int .i64 (y4 % 8))).setCell ⟨wz.heap.size, 5, none⟩ (.int .i64 0)).setCell ⟨wz.heap.size, 6, none⟩ (.int .u8 (y6 % 3 + 1))).setCell ⟨wz.heap.size, 7, none⟩ (.bool y7)).setCell ⟨wz.heap.size, 8, none⟩ (.slice none 0 0)) = wo6 at B6 Fo6
            have FF6 := Fz6.trans Fo6 (fun i hi (h : i = wz.heap.size) => by omega)
            obtain ⟨d6_0, d6_1, d6_2, d6_3, d6_4, d6_5, d6_6, d6_7, d6_8⟩ := cells9 B6
            have HFk := Lib.hid (HFx.out.trans FF6 (fun _ _ x => x))
            have HBr := Lib.hid B6
            have HBx2 := Lib.hid (FF6.at_ HBx.out (fun x => x))
            have HSX : Hid (wr.heap.size < wz.heap.size) := Lib.hid (lt_of HBx.out)
            go_upto_block 2 with (fail)
            clear c6_0 z6_0 c6_1 z6_1 c6_2 z6_2 c6_3 z6_3 c6_4 z6_4 c6_5 z6_5 c6_6 z6_6 c6_7 z6_7 c6_8 z6_8 d6_0 d6_1 d6_2 d6_3 d6_4 d6_5 d6_6 d6_7 d6_8 Bz6 Fz6 Fo6 hwm6 hwo6
            clear x0 x1 x2 x3 x4 x5 x6 x7 x8 B6 FF6
            generalize wo6 = wk at HBr HBx2 HFk ⊢
            generalize hK : y0 % 6 + 1 = K at HBr ⊢
            have HK : Hid (mkK ⟨y0, y1, y2, y3, y4, y5, y6, y7, yA, yn, yc⟩ = K) := Lib.hid hK
            have hkr : 1 ≤ K ∧ K ≤ 6 := by omega
            clear hK
            go_cut [] (fun wy => ∃ L B SP : Int, wy.heap[wz.heap.size]? = some (.cells #[.int .u8 K, .int .i64 (y1 % 3), .int .i64 L, .int .i64 B, .int .i64 (y4 % 8), .int .i64 SP, .int .u8 (y6 % 3 + 1), .bool y7, .slice none 0 0] 38 (0, 0)) ∧ wy.heap[wr.heap.size]? = some (.cells #[.int .u8 y0, .int .u8 y1, .int .u8 y2, .int .u8 y3, .int .u8 y4, .int .u8 y5, .int .u8 y6, .bool y7, .slice yA yn yc] 71 (0, 0)) ∧ Fr (fun i => i = wz.heap.size) wk wy ∧ L = mkL ⟨y0, y1, y2, y3, y4, y5, y6, y7, yA, yn, yc⟩ ∧ B = mkB ⟨y0, y1, y2, y3, y4, y5, y6, y7, yA, yn, yc⟩ ∧ SP = mkSp ⟨y0, y1, y2, y3, y4, y5, y6, y7, yA, yn, yc⟩)
            case first =>
              as_aux_lemma =>
                rcases (by omega : K = 1 ∨ K = 2 ∨ K = 3 ∨ K = 4 ∨ K = 5 ∨ K = 6) with rfl | rfl | rfl | rfl | rfl | rfl
                · as_aux_lemma =>
                    obtain ⟨r0_0, r0_1, r0_2, r0_3, r0_4, r0_5, r0_6, r0_7, r0_8⟩ := cells9 HBr.out
                    obtain ⟨x0_0, x0_1, x0_2, x0_3, x0_4, x0_5, x0_6, x0_7, x0_8⟩ := cells9 HBx2.out
                    have z0 := frozen_of HBr.out 2
                    have R1 : (wk.setCell ⟨wz.heap.size, 2, none⟩ (.int .i64 (y2))).heap[wz.heap.size]? = some (.cells #[.int .u8 1, .int .i64 (y1 % 3), .int .i64 (y2), .int .i64 0, .int .i64 (y4 % 8), .int .i64 0, .int .u8 (y6 % 3 + 1), .bool y7, .slice none 0 0] 38 (0, 0)) := set_at HBr.out 2 _
                    have X1 := set_far HBx2.out (p := ⟨wz.heap.size, 2, none⟩) (Nat.ne_of_lt HSX.out) (.int .i64 (y2))
                    have G1 := (Fr.refl (fun i => i = wz.heap.size) wk).setCell (p := ⟨wz.heap.size, 2, none⟩) (fun _ => rfl) (.int .i64 (y2))
                    generalize hv1 : wk.setCell ⟨wz.heap.size, 2, none⟩ (.int .i64 (y2)) = v1 at R1 X1 G1
                    obtain ⟨r1_0, r1_1, r1_2, r1_3, r1_4, r1_5, r1_6, r1_7, r1_8⟩ := cells9 R1
                    obtain ⟨x1_0, x1_1, x1_2, x1_3, x1_4, x1_5, x1_6, x1_7, x1_8⟩ := cells9 X1
                    have z1 := frozen_of R1 3
                    have R2 : (v1.setCell ⟨wz.heap.size, 3, none⟩ (.int .i64 (y2 - y3 % 20))).heap[wz.heap.size]? = some (.cells #[.int .u8 1, .int .i64 (y1 % 3), .int .i64 (y2), .int .i64 (y2 - y3 % 20), .int .i64 (y4 % 8), .int .i64 0, .int .u8 (y6 % 3 + 1), .bool y7, .slice none 0 0] 38 (0, 0)) := set_at R1 3 _
                    have X2 := set_far X1 (p := ⟨wz.heap.size, 3, none⟩) (Nat.ne_of_lt HSX.out) (.int .i64 (y2 - y3 % 20))
                    have G2 := G1.setCell (p := ⟨wz.heap.size, 3, none⟩) (fun _ => rfl) (.int .i64 (y2 - y3 % 20))
                    generalize hv2 : v1.setCell ⟨wz.heap.size, 3, none⟩ (.int .i64 (y2 - y3 % 20)) = v2 at R2 X2 G2
                    obtain ⟨r2_0, r2_1, r2_2, r2_3, r2_4, r2_5, r2_6, r2_7, r2_8⟩ := cells9 R2
                    obtain ⟨x2_0, x2_1, x2_2, x2_3, x2_4, x2_5, x2_6, x2_7, x2_8⟩ := cells9 X2
                    have HREL := Lib.hid (And.intro R2 (And.intro X2 G2))
                    clear R1 X1 G1 R2 X2 G2
                    go_wp2_with fail
                    go_meet
                    case rel => exact ⟨_, _, _, HREL.out.1, HREL.out.2.1, HREL.out.2.2, (mk1 (x := ⟨y0, y1, y2, y3, y4, y5, y6, y7, yA, yn, yc⟩) HK.out).1, (mk1 (x := ⟨y0, y1, y2, y3, y4, y5, y6, y7, yA, yn, yc⟩) HK.out).2.1, (mk1 (x := ⟨y0, y1, y2, y3, y4, y5, y6, y7, yA, yn, yc⟩) HK.out).2.2⟩
                · as_aux_lemma =>
                    obtain ⟨r0_0, r0_1, r0_2, r0_3, r0_4, r0_5, r0_6, r0_7, r0_8⟩ := cells9 HBr.out
                    obtain ⟨x0_0, x0_1, x0_2, x0_3, x0_4, x0_5, x0_6, x0_7, x0_8⟩ := cells9 HBx2.out
                    have z0 := frozen_of HBr.out 2
                    have R1 : (wk.setCell ⟨wz.heap.size, 2, none⟩ (.int .i64 (y2))).heap[wz.heap.size]? = some (.cells #[.int .u8 2, .int .i64 (y1 % 3), .int .i64 (y2), .int .i64 0, .int .i64 (y4 % 8), .int .i64 0, .int .u8 (y6 % 3 + 1), .bool y7, .slice none 0 0] 38 (0, 0)) := set_at HBr.out 2 _
                    have X1 := set_far HBx2.out (p := ⟨wz.heap.size, 2, none⟩) (Nat.ne_of_lt HSX.out) (.int .i64 (y2))
                    have G1 := (Fr.refl (fun i => i = wz.heap.size) wk).setCell (p := ⟨wz.heap.size, 2, none⟩) (fun _ => rfl) (.int .i64 (y2))
                    generalize hv1 : wk.setCell ⟨wz.heap.size, 2, none⟩ (.int .i64 (y2)) = v1 at R1 X1 G1
                    obtain ⟨r1_0, r1_1, r1_2, r1_3, r1_4, r1_5, r1_6, r1_7, r1_8⟩ := cells9 R1
                    obtain ⟨x1_0, x1_1, x1_2, x1_3, x1_4, x1_5, x1_6, x1_7, x1_8⟩ := cells9 X1
                    have z1 := frozen_of R1 3
                    have R2 : (v1.setCell ⟨wz.heap.size, 3, none⟩ (.int .i64 (y2 + y3 % 20))).heap[wz.heap.size]? = some (.cells #[.int .u8 2, .int .i64 (y1 % 3), .int .i64 (y2), .int .i64 (y2 + y3 % 20), .int .i64 (y4 % 8), .int .i64 0, .int .u8 (y6 % 3 + 1), .bool y7, .slice none 0 0] 38 (0, 0)) := set_at R1 3 _
                    have X2 := set_far X1 (p := ⟨wz.heap.size, 3, none⟩) (Nat.ne_of_lt HSX.out) (.int .i64 (y2 + y3 % 20))
                    have G2 := G1.setCell (p := ⟨wz.heap.size, 3, none⟩) (fun _ => rfl) (.int .i64 (y2 + y3 % 20))
                    generalize hv2 : v1.setCell ⟨wz.heap.size, 3, none⟩ (.int .i64 (y2 + y3 % 20)) = v2 at R2 X2 G2
                    obtain ⟨r2_0, r2_1, r2_2, r2_3, r2_4, r2_5, r2_6, r2_7, r2_8⟩ := cells9 R2
                    obtain ⟨x2_0, x2_1, x2_2, x2_3, x2_4, x2_5, x2_6, x2_7, x2_8⟩ := cells9 X2
                    have HREL := Lib.hid (And.intro R2 (And.intro X2 G2))
                    clear R1 X1 G1 R2 X2 G2
                    go_wp2_with fail
                    go_meet
                    case rel => exact ⟨_, _, _, HREL.out.1, HREL.out.2.1, HREL.out.2.2, (mk2 (x := ⟨y0, y1, y2, y3, y4, y5, y6, y7, yA, yn, yc⟩) HK.out).1, (mk2 (x := ⟨y0, y1, y2, y3, y4, y5, y6, y7, yA, yn, yc⟩) HK.out).2.1, (mk2 (x := ⟨y0, y1, y2, y3, y4, y5, y6, y7, yA, yn, yc⟩) HK.out).2.2⟩
                · as_aux_lemma =>
                    obtain ⟨r0_0, r0_1, r0_2, r0_3, r0_4, r0_5, r0_6, r0_7, r0_8⟩ := cells9 HBr.out
                    obtain ⟨x0_0, x0_1, x0_2, x0_3, x0_4, x0_5, x0_6, x0_7, x0_8⟩ := cells9 HBx2.out
                    have z0 := frozen_of HBr.out 2
                    have R1 : (wk.setCell ⟨wz.heap.size, 2, none⟩ (.int .i64 (1 + y2 % 60))).heap[wz.heap.size]? = some (.cells #[.int .u8 3, .int .i64 (y1 % 3), .int .i64 (1 + y2 % 60), .int .i64 0, .int .i64 (y4 % 8), .int .i64 0, .int .u8 (y6 % 3 + 1), .bool y7, .slice none 0 0] 38 (0, 0)) := set_at HBr.out 2 _
                    have X1 := set_far HBx2.out (p := ⟨wz.heap.size, 2, none⟩) (Nat.ne_of_lt HSX.out) (.int .i64 (1 + y2 % 60))
                    have G1 := (Fr.refl (fun i => i = wz.heap.size) wk).setCell (p := ⟨wz.heap.size, 2, none⟩) (fun _ => rfl) (.int .i64 (1 + y2 % 60))
                    generalize hv1 : wk.setCell ⟨wz.heap.size, 2, none⟩ (.int .i64 (1 + y2 % 60)) = v1 at R1 X1 G1
                    obtain ⟨r1_0, r1_1, r1_2, r1_3, r1_4, r1_5, r1_6, r1_7, r1_8⟩ := cells9 R1
                    obtain ⟨x1_0, x1_1, x1_2, x1_3, x1_4, x1_5, x1_6, x1_7, x1_8⟩ := cells9 X1
                    have z1 := frozen_of R1 3
                    have R2 : (v1.setCell ⟨wz.heap.size, 3, none⟩ (.int .i64 (y3 % (1 + y2 % 60 + 1)))).heap[wz.heap.size]? = some (.cells #[.int .u8 3, .int .i64 (y1 % 3), .int .i64 (1 + y2 % 60), .int .i64 (y3 % (1 + y2 % 60 + 1)), .int .i64 (y4 % 8), .int .i64 0, .int .u8 (y6 % 3 + 1), .bool y7, .slice none 0 0] 38 (0, 0)) := set_at R1 3 _
                    have X2 := set_far X1 (p := ⟨wz.heap.size, 3, none⟩) (Nat.ne_of_lt HSX.out) (.int .i64 (y3 % (1 + y2 % 60 + 1)))
                    have G2 := G1.setCell (p := ⟨wz.heap.size, 3, none⟩) (fun _ => rfl) (.int .i64 (y3 % (1 + y2 % 60 + 1)))
                    generalize hv2 : v1.setCell ⟨wz.heap.size, 3, none⟩ (.int .i64 (y3 % (1 + y2 % 60 + 1))) = v2 at R2 X2 G2
                    obtain ⟨r2_0, r2_1, r2_2, r2_3, r2_4, r2_5, r2_6, r2_7, r2_8⟩ := cells9 R2
                    obtain ⟨x2_0, x2_1, x2_2, x2_3, x2_4, x2_5, x2_6, x2_7, x2_8⟩ := cells9 X2
                    have z2 := frozen_of R2 5
                    have R3 : (v2.setCell ⟨wz.heap.size, 5, none⟩ (.int .i64 (1 + y5 % 12))).heap[wz.heap.size]? = some (.cells #[.int .u8 3, .int .i64 (y1 % 3), .int .i64 (1 + y2 % 60), .int .i64 (y3 % (1 + y2 % 60 + 1)), .int .i64 (y4 % 8), .int .i64 (1 + y5 % 12), .int .u8 (y6 % 3 + 1), .bool y7, .slice none 0 0] 38 (0, 0)) := set_at R2 5 _
                    have X3 := set_far X2 (p := ⟨wz.heap.size, 5, none⟩) (Nat.ne_of_lt HSX.out) (.int .i64 (1 + y5 % 12))
                    have G3 := G2.setCell (p := ⟨wz.heap.size, 5, none⟩) (fun _ => rfl) (.int .i64 (1 + y5 % 12))
                    generalize hv3 : v2.setCell ⟨wz.heap.size, 5, none⟩ (.int .i64 (1 + y5 % 12)) = v3 at R3 X3 G3
                    obtain ⟨r3_0, r3_1, r3_2, r3_3, r3_4, r3_5, r3_6, r3_7, r3_8⟩ := cells9 R3
                    obtain ⟨x3_0, x3_1, x3_2, x3_3, x3_4, x3_5, x3_6, x3_7, x3_8⟩ := cells9 X3
                    have HREL := Lib.hid (And.intro R3 (And.intro X3 G3))
                    clear R1 X1 G1 R2 X2 G2 R3 X3 G3
                    go_wp2_with fail
                    go_meet
                    case rel => exact ⟨_, _, _, HREL.out.1, HREL.out.2.1, HREL.out.2.2, (mk34 (x := ⟨y0, y1, y2, y3, y4, y5, y6, y7, yA, yn, yc⟩) (.inl HK.out)).1, (mk34 (x := ⟨y0, y1, y2, y3, y4, y5, y6, y7, yA, yn, yc⟩) (.inl HK.out)).2.1, (mk34 (x := ⟨y0, y1, y2, y3, y4, y5, y6, y7, yA, yn, yc⟩) (.inl HK.out)).2.2⟩
                · as_aux_lemma =>
                    obtain ⟨r0_0, r0_1, r0_2, r0_3, r0_4, r0_5, r0_6, r0_7, r0_8⟩ := cells9 HBr.out
                    obtain ⟨x0_0, x0_1, x0_2, x0_3, x0_4, x0_5, x0_6, x0_7, x0_8⟩ := cells9 HBx2.out
                    have z0 := frozen_of HBr.out 2
                    have R1 : (wk.setCell ⟨wz.heap.size, 2, none⟩ (.int .i64 (1 + y2 % 60))).heap[wz.heap.size]? = some (.cells #[.int .u8 4, .int .i64 (y1 % 3), .int .i64 (1 + y2 % 60), .int .i64 0, .int .i64 (y4 % 8), .int .i64 0, .int .u8 (y6 % 3 + 1), .bool y7, .slice none 0 0] 38 (0, 0)) := set_at HBr.out 2 _
                    have X1 := set_far HBx2.out (p := ⟨wz.heap.size, 2, none⟩) (Nat.ne_of_lt HSX.out) (.int .i64 (1 + y2 % 60))
                    have G1 := (Fr.refl (fun i => i = wz.heap.size) wk).setCell (p := ⟨wz.heap.size, 2, none⟩) (fun _ => rfl) (.int .i64 (1 + y2 % 60))
                    generalize hv1 : wk.setCell ⟨wz.heap.size, 2, none⟩ (.int .i64 (1 + y2 % 60)) = v1 at R1 X1 G1
                    obtain ⟨r1_0, r1_1, r1_2, r1_3, r1_4, r1_5, r1_6, r1_7, r1_8⟩ := cells9 R1
                    obtain ⟨x1_0, x1_1, x1_2, x1_3, x1_4, x1_5, x1_6, x1_7, x1_8⟩ := cells9 X1
                    have z1 := frozen_of R1 3
                    have R2 : (v1.setCell ⟨wz.heap.size, 3, none⟩ (.int .i64 (y3 % (1 + y2 % 60 + 1)))).heap[wz.heap.size]? = some (.cells #[.int .u8 4, .int .i64 (y1 % 3), .int .i64 (1 + y2 % 60), .int .i64 (y3 % (1 + y2 % 60 + 1)), .int .i64 (y4 % 8), .int .i64 0, .int .u8 (y6 % 3 + 1), .bool y7, .slice none 0 0] 38 (0, 0)) := set_at R1 3 _
                    have X2 := set_far X1 (p := ⟨wz.heap.size, 3, none⟩) (Nat.ne_of_lt HSX.out) (.int .i64 (y3 % (1 + y2 % 60 + 1)))
                    have G2 := G1.setCell (p := ⟨wz.heap.size, 3, none⟩) (fun _ => rfl) (.int .i64 (y3 % (1 + y2 % 60 + 1)))
                    generalize hv2 : v1.setCell ⟨wz.heap.size, 3, none⟩ (.int .i64 (y3 % (1 + y2 % 60 + 1))) = v2 at R2 X2 G2
                    obtain ⟨r2_0, r2_1, r2_2, r2_3, r2_4, r2_5, r2_6, r2_7, r2_8⟩ := cells9 R2
                    obtain ⟨x2_0, x2_1, x2_2, x2_3, x2_4, x2_5, x2_6, x2_7, x2_8⟩ := cells9 X2
                    have z2 := frozen_of R2 5
                    have R3 : (v2.setCell ⟨wz.heap.size, 5, none⟩ (.int .i64 (1 + y5 % 12))).heap[wz.heap.size]? = some (.cells #[.int .u8 4, .int .i64 (y1 % 3), .int .i64 (1 + y2 % 60), .int .i64 (y3 % (1 + y2 % 60 + 1)), .int .i64 (y4 % 8), .int .i64 (1 + y5 % 12), .int .u8 (y6 % 3 + 1), .bool y7, .slice none 0 0] 38 (0, 0)) := set_at R2 5 _
                    have X3 := set_far X2 (p := ⟨wz.heap.size, 5, none⟩) (Nat.ne_of_lt HSX.out) (.int .i64 (1 + y5 % 12))
                    have G3 := G2.setCell (p := ⟨wz.heap.size, 5, none⟩) (fun _ => rfl) (.int .i64 (1 + y5 % 12))
                    generalize hv3 : v2.setCell ⟨wz.heap.size, 5, none⟩ (.int .i64 (1 + y5 % 12)) = v3 at R3 X3 G3
                    obtain ⟨r3_0, r3_1, r3_2, r3_3, r3_4, r3_5, r3_6, r3_7, r3_8⟩ := cells9 R3
                    obtain ⟨x3_0, x3_1, x3_2, x3_3, x3_4, x3_5, x3_6, x3_7, x3_8⟩ := cells9 X3
                    have HREL := Lib.hid (And.intro R3 (And.intro X3 G3))
                    clear R1 X1 G1 R2 X2 G2 R3 X3 G3
                    go_wp2_with fail
                    go_meet
                    case rel => exact ⟨_, _, _, HREL.out.1, HREL.out.2.1, HREL.out.2.2, (mk34 (x := ⟨y0, y1, y2, y3, y4, y5, y6, y7, yA, yn, yc⟩) (.inr HK.out)).1, (mk34 (x := ⟨y0, y1, y2, y3, y4, y5, y6, y7, yA, yn, yc⟩) (.inr HK.out)).2.1, (mk34 (x := ⟨y0, y1, y2, y3, y4, y5, y6, y7, yA, yn, yc⟩) (.inr HK.out)).2.2⟩
                · as_aux_lemma =>
                    obtain ⟨r0_0, r0_1, r0_2, r0_3, r0_4, r0_5, r0_6, r0_7, r0_8⟩ := cells9 HBr.out
                    obtain ⟨x0_0, x0_1, x0_2, x0_3, x0_4, x0_5, x0_6, x0_7, x0_8⟩ := cells9 HBx2.out
                    have z0 := frozen_of HBr.out 5
                    have R1 : (wk.setCell ⟨wz.heap.size, 5, none⟩ (.int .i64 (1 + y5 % 12))).heap[wz.heap.size]? = some (.cells #[.int .u8 5, .int .i64 (y1 % 3), .int .i64 0, .int .i64 0, .int .i64 (y4 % 8), .int .i64 (1 + y5 % 12), .int .u8 (y6 % 3 + 1), .bool y7, .slice none 0 0] 38 (0, 0)) := set_at HBr.out 5 _
                    have X1 := set_far HBx2.out (p := ⟨wz.heap.size, 5, none⟩) (Nat.ne_of_lt HSX.out) (.int .i64 (1 + y5 % 12))
                    have G1 := (Fr.refl (fun i => i = wz.heap.size) wk).setCell (p := ⟨wz.heap.size, 5, none⟩) (fun _ => rfl) (.int .i64 (1 + y5 % 12))
                    generalize hv1 : wk.setCell ⟨wz.heap.size, 5, none⟩ (.int .i64 (1 + y5 % 12)) = v1 at R1 X1 G1
                    obtain ⟨r1_0, r1_1, r1_2, r1_3, r1_4, r1_5, r1_6, r1_7, r1_8⟩ := cells9 R1
                    obtain ⟨x1_0, x1_1, x1_2, x1_3, x1_4, x1_5, x1_6, x1_7, x1_8⟩ := cells9 X1
                    have HREL := Lib.hid (And.intro R1 (And.intro X1 G1))
                    clear R1 X1 G1
                    go_wp2_with fail
                    go_meet
                    case rel => exact ⟨_, _, _, HREL.out.1, HREL.out.2.1, HREL.out.2.2, (mk5 (x := ⟨y0, y1, y2, y3, y4, y5, y6, y7, yA, yn, yc⟩) HK.out).1, (mk5 (x := ⟨y0, y1, y2, y3, y4, y5, y6, y7, yA, yn, yc⟩) HK.out).2.1, (mk5 (x := ⟨y0, y1, y2, y3, y4, y5, y6, y7, yA, yn, yc⟩) HK.out).2.2⟩
                · as_aux_lemma =>
                    obtain ⟨r0_0, r0_1, r0_2, r0_3, r0_4, r0_5, r0_6, r0_7, r0_8⟩ := cells9 HBr.out
                    obtain ⟨x0_0, x0_1, x0_2, x0_3, x0_4, x0_5, x0_6, x0_7, x0_8⟩ := cells9 HBx2.out
                    have HREL := Lib.hid (And.intro HBr.out (And.intro HBx2.out (Fr.refl (fun i => i = wz.heap.size) wk)))
                    go_wp2_with fail
                    go_meet
                    case rel => exact ⟨_, _, _, HREL.out.1, HREL.out.2.1, HREL.out.2.2, (mk6 (x := ⟨y0, y1, y2, y3, y4, y5, y6, y7, yA, yn, yc⟩) HK.out).1, (mk6 (x := ⟨y0, y1, y2, y3, y4, y5, y6, y7, yA, yn, yc⟩) HK.out).2.1, (mk6 (x := ⟨y0, y1, y2, y3, y4, y5, y6, y7, yA, yn, yc⟩) HK.out).2.2⟩
            case rest =>
              obtain ⟨L, B, SP, Br, Bx, Fk, hL, hB, hSP⟩ := hcut
              generalize hwt : wc = wt at Br Bx Fk ⊢
              clear hwt
              have HLBS := Lib.hid (And.intro hL (And.intro hB hSP))
              have HBr3 := Lib.hid Br
              have HBx3 := Lib.hid Bx
              have HF3 := Lib.hid (HFk.out.trans Fk (fun i hi (e : i = wz.heap.size) => by have := HSX.out; omega))
              have HST : Hid (Reads EU wt yA yn (ss.getD j []) ∧ ∀ z, z ∈ ss.getD j [] → byte z) := Lib.hid (by
                by_cases h1 : j < n0
                · have h2 := HDW.out.st j h1
                  rw [HYY.out] at h2
                  exact ⟨h2.fr ((HF1.out.step HFj.out (fun i e => by have := HE.out; omega)).step HF3.out nop) (fun _ _ x => x), HDW.out.sw j h1⟩
                · have e : ss.getD j [] = [] := by rw [List.getD_eq_getElem?_getD, List.getElem?_eq_none (by rw [HDW.out.ssl]; omega)]; rfl
                  rw [e]
                  obtain ⟨-, -, -, rfl, -⟩ := HYX.out h1
                  exact ⟨⟨rfl, .inl rfl⟩, fun z hz => by cases hz⟩)
              have HST2 : Hid (∀ ad, yA = some ad → 0 < yn → ad.block < bd) := Lib.hid (fun ad ha h0 => by
                have h1 : j < n0 := Decidable.byContradiction fun h => by have := (HYX.out h).2.2.2.1; omega
                have h2 := HDW.out.st j h1
                rw [HYY.out] at h2
                have := rd_lt h2 ha h0
                have := HE.out
                omega)
              obtain ⟨zs, hzs⟩ : ∃ zs, ss.getD j [] = zs := ⟨_, rfl⟩
              rw [hzs] at HST
              have HZS := Lib.hid hzs
              obtain ⟨P, hP⟩ : ∃ P, y6 % 3 + 1 = P := ⟨_, rfl⟩
              have hP13 : 1 ≤ P ∧ P ≤ 3 := by omega
              rw [hP] at HBr3 Br
              have HPP := Lib.hid hP
              clear hL hB hSP hzs
              clear Bx Fk t0 t0' t1 t1' t2 t2' t3 t3' t4 t4' t5 t5' t6 t6' hkr
              obtain ⟨-, -, -, -, -, -, r6, -, -⟩ := cells9 Br
              clear Br hP
              go_upto_block 3 with (fail)
              clear r6
              go_cut [7, 8] (fun s7 s8 wx => ∃ (sA : Option Addr) (sk m : Nat), s8 = .int .i64 m ∧ StR P zs m s7 wx wz.heap.size wt sA sk (fun v => #[.int .u8 K, .int .i64 (y1 % 3), .int .i64 L, .int .i64 B, .int .i64 (y4 % 8), .int .i64 SP, .int .u8 P, .bool y7, v]) ∧ (zs.take m) = zs.take 4)
              case first =>
                have HRB : Hid (wz.heap.size < wt.heap.size) := Lib.hid (lt_of HBr3.out)
                obtain ⟨i0, hii, hz0, hz1, hz2⟩ := info_parts (show (Try.prog.info? 75).map (fun i => (i.zero, i.size, i.bytes)) = some (some (.agg #[.int .i64 0, .int .u8 0]), 2, 16) by kernel_rfl)
                have HINF := Lib.hid (And.intro hii (And.intro hz0 (And.intro hz1 hz2)))
                have HZL := Lib.hid HST.out.1.1
                clear hii hz0 hz1 hz2
                go_wp2_with fail
                go_loopw [7, 8] (fun p i wq => ∃ (m : Nat) (sA : Option Addr) (sk : Nat), i = .int .i64 m ∧ StR P zs m p wq wz.heap.size wt sA sk (fun v => #[.int .u8 K, .int .i64 (y1 % 3), .int .i64 L, .int .i64 B, .int .i64 (y4 % 8), .int .i64 SP, .int .u8 P, .bool y7, v])) (fun _ i _ => 5 - (intOf i).toNat)
                case atStart => exact ⟨0, none, 0, rfl, ⟨rfl, ⟨Nat.zero_le _, Nat.zero_le _⟩, HBr3.out, Own.nil _ _ _ _, Fr.refl _ _⟩⟩
                case round =>
                  rename World => wq
                  obtain ⟨m, sA, sk, rfl, hp, hle, Rr, Ow, Fw⟩ := hrel
                  subst hp
                  have HRr := Lib.hid Rr
                  have HOw := Lib.hid Ow
                  have HFw := Lib.hid Fw
                  obtain ⟨-, -, -, -, -, -, -, -, x8⟩ := cells9 (Fw.at_ HBx3.out (fun e => by have := HSX.out; omega))
                  have x8' : ∀ X, (wq.alloc X).cell? ⟨wr.heap.size, 8, none⟩ = some (.slice yA yn yc) := fun X => (cells9 (alloc_at (Fw.at_ HBx3.out (fun e => by have := HSX.out; omega)) X)).2.2.2.2.2.2.2.2
                  obtain ⟨-, -, -, -, -, -, -, -, r8⟩ := cells9 Rr
                  have r8' : ∀ X, (wq.alloc X).cell? ⟨wz.heap.size, 8, none⟩ = some (.slice sA m sk) := fun X => (cells9 (alloc_at Rr X)).2.2.2.2.2.2.2.2
                  clear Rr Fw
                  have hyn : zs.length = yn := HZL.out
                  have hle1 := hle.1
                  have hle2 := hle.2
                  clear hle
                  by_cases hm : m < yn
                  · have hm' : (m : Int) < (yn : Int) := by omega
                    by_cases hm4 : m < 4
                    · have hm4' : (m : Int) < 4 := by omega
                      have rz := HST.out.1.fr HFw.out (fun ad ha e => by have := rd_lt HST.out.1 ha (by omega); have := (HST2.out ad ha (by omega)); have := HE.out; have := HFj.out.size; have := HSX.out; omega)
                      obtain ⟨zb, zo, rfl, hzb⟩ := rz.plain (by omega)
                      obtain ⟨z, hz⟩ : ∃ z, zs.getD m 0 = z := ⟨_, rfl⟩
                      have l0 := rz.u8 hm hz
                      have l0' : ∀ X, (wq.alloc X).cell? ⟨zb, zo + m, none⟩ = some (.int .u8 z) := fun X => (rz.alloc X).u8 hm hz
                      have hbz : byte z := HST.out.2 z (by rw [← hz, List.getD_eq_getElem?_getD, List.getElem?_eq_getElem (by omega)]; exact List.getElem_mem _)
                      have hbz1 := hbz.1
                      have hbz2 := hbz.2
                      have HTK : Hid (zs.take (m + 1) = zs.take m ++ [z]) := Lib.hid (by
                        have e : z = zs[m] := by rw [← hz, List.getD_eq_getElem?_getD, List.getElem?_eq_getElem (by omega)]; rfl
                        rw [List.take_add_one, List.getElem?_eq_getElem (by omega), e]; rfl)
                      have hq0 := stgp_rng (zs.take m) P hP13 (fun z hz => (HST.out.2 z (List.mem_of_mem_take hz)).1)
                      obtain ⟨q, hq⟩ : ∃ q, stgp P (zs.take m) = q := ⟨_, rfl⟩
                      rw [hq] at hq0
                      rw [hq]
                      have hq1 := hq0.1
                      have hq2 := hq0.2
                      have HQ := Lib.hid hq
                      clear rz hz hbz hq0 hq
                      go_upto_if 150 with (fail)
                      go_cut [7] (fun s7 wx => s7 = .int .u8 (nxt q z) ∧ wx = wq)
                      case first =>
                        by_cases h3 : 3 < q + z % 2
                        · go_wp2_with fail
                          go_meet
                          case rel => exact ⟨by unfold nxt; rw [if_pos h3], rfl⟩
                        · go_wp2_with fail
                          go_meet
                          case rel => exact ⟨by unfold nxt; rw [if_neg (by omega)], rfl⟩
                      case rest =>
                        obtain ⟨hs7, hwx⟩ := hcut
                        subst hs7
                        obtain rfl := hwx.symm
                        obtain ⟨hii, hz0, hz1, hz2⟩ := HINF.out
                        obtain ⟨d, hd⟩ : ∃ d, z.tdiv 2 = d := ⟨_, rfl⟩
                        have hd' : d = z / 2 := by rw [← hd]; exact Int.tdiv_eq_ediv_of_nonneg (by omega)
                        obtain ⟨f, hf⟩ : ∃ f, d.tmod 12 = f := ⟨_, rfl⟩
                        have hf' : f = z / 2 % 12 := by rw [← hf, hd']; exact Int.tmod_eq_emod_of_nonneg (by omega)
                        have hf0 : 0 ≤ f ∧ f < 12 := by omega
                        have hw0 : IntKind.u8.wrap d = d := by rw [IntKind.wrap_u8]; omega
                        have hw1 : wrap64 f = f := by unfold wrap64; omega
                        have hw2 : IntKind.i64.wrap f = f := (wrapE _).trans hw1
                        have hw3 : wrap64 (1 + f) = 1 + f := by unfold wrap64; omega
                        have hw4 : IntKind.i64.wrap (1 + f) = 1 + f := (wrapE _).trans hw3
                        obtain ⟨p', hp'⟩ : ∃ p', nxt q z = p' := ⟨_, rfl⟩
                        rw [hp']
                        obtain ⟨l, hl⟩ : ∃ l, stg P (zs.take m) = l := ⟨_, rfl⟩
                        have hlm : m = l.length := by rw [← hl, stg_length, List.length_take]; omega
                        have HNEW : Hid (stgp P (zs.take (m + 1)) = p' ∧ stg P (zs.take (m + 1)) = l ++ [(1 + f, p')]) := Lib.hid (by
                          rw [HTK.out, stgp_app, stg_app, HQ.out, hl, hp', hf']; exact ⟨rfl, rfl⟩)
                        rw [hl] at HOw
                        clear hl hp' hbz1 hbz2 hd' hf' hf0 HQ
                        subst hlm
                        have HB2 : Hid (∀ X, wt.heap.size ≤ (wq.drew.alloc X).heap.size) := Lib.hid (fun X => by have := HFw.out.size; simp; omega)
                        have HB3 : Hid (∀ X, wz.heap.size < (wq.drew.alloc X).heap.size) := Lib.hid (fun X => by have := HFw.out.size; have := HRB.out; simp; omega)
                        have HB4 : Hid (¬ (Value.slice sA l.length sk).ownBlock = some wz.heap.size) := Lib.hid (fun h => by have := (HOw.out.blk _ h).1; have := HRB.out; omega)
                        have HB5 : Hid (∀ u ∈ ESt.enc (1 + f, p'), u.oneCell' = true) := Lib.hid (by intro u hu; simp [ESt] at hu; rcases hu with rfl | rfl <;> rfl)
                        have HB6 : Hid (l.length < 4 ∧ l.length < zs.length) := Lib.hid ⟨hm4, by omega⟩
                        have hl1 : l.length + 1 ≤ maxLen := by unfold maxLen; omega
                        have hl2 : (l.length + 1) * 16 ≤ 140737488355328 := by omega
                        clear hq1 hq2 hyn hle1 hle2 hm hm' hm4 hm4'
                        have hi4 : l.length < yn := by have := HB6.out.2; have := HZL.out; omega
                        have hi4' : (l.length : Int) < (yn : Int) := by omega
                        go_wp2_with fail
                        go_region_law (refine step_append_one ESt 75 rfl (.tmp 152) (.tmp 164) 36 rfl i0 (.agg #[.int .i64 0, .int .u8 0]) 16 Try.underlying36 hii hz0 hz1 hz2 rfl wt.heap.size (.slice sA l.length sk) l rfl (HOw.out.drew.alloc _) ⟨wq.heap.size, 0, none⟩ 1 (1 + f, p') rfl (lit_cells (W := wq.drew) (cs := [.int .i64 (1 + f), .int .u8 p']) rfl) HB5.out hl1 hl2 (HB2.out _) ?_; intro A2 c2 w4 hown2 hgrow; have B4 := (hgrow.block wz.heap.size (HB3.out _) (fun h => HB4.out h.symm)).trans (alloc_at (w := wq.drew) HRr.out _); have z4 := frozen_of B4 8; have e4 := cells9 B4)
                        all_goals
                          have R5 : (w4.setCell ⟨wz.heap.size, 8, none⟩ (.slice A2 (l.length + 1) c2)).heap[wz.heap.size]? = some (.cells #[.int .u8 K, .int .i64 (y1 % 3), .int .i64 L, .int .i64 B, .int .i64 (y4 % 8), .int .i64 SP, .int .u8 P, .bool y7, .slice A2 (l.length + 1) c2] 38 (0, 0)) := set_at B4 8 _
                          have F5 := (((HFw.out.drew).alloc (.cells #[.int .i64 (1 + f), .int .u8 p'] 75)).grown hgrow (fun k hk => (HOw.out.blk k hk).1)).setCell (p := ⟨wz.heap.size, 8, none⟩) (fun _ => rfl) (.slice A2 (l.length + 1) c2)
                          have O5 := hown2.fr ((Fr.refl (fun i => i = wz.heap.size) w4).setCell (p := ⟨wz.heap.size, 8, none⟩) (fun _ => rfl) (.slice A2 (l.length + 1) c2)) (fun k hk e => by have := (hown2.blk k hk).1; have := HRB.out; omega)
                          have HREL : Hid (StR P zs (l.length + 1) (.int .u8 p') (w4.setCell ⟨wz.heap.size, 8, none⟩ (.slice A2 (l.length + 1) c2)) wz.heap.size wt A2 c2 (fun v => #[.int .u8 K, .int .i64 (y1 % 3), .int .i64 L, .int .i64 B, .int .i64 (y4 % 8), .int .i64 SP, .int .u8 P, .bool y7, v])) := Lib.hid ⟨by rw [HNEW.out.1], ⟨by have := HB6.out; omega, by have := HB6.out; omega⟩, R5, by rw [HNEW.out.2]; exact O5, F5⟩
                          clear R5 F5 O5 hown2 hgrow B4 z4 e4
                          have hl4 := HB6.out.1
                          go_wp2
                          go_roundw
                          case rel => exact ⟨l.length + 1, A2, c2, by go_num, HREL.out⟩
                          case measure => simp [intOf]; omega
                    · have hm4' : ¬ (m : Int) < 4 := by omega
                      go_wp2_with fail
                      go_meet
                      case rel => exact ⟨sA, sk, m, rfl, ⟨rfl, ⟨hle1, hle2⟩, HRr.out, HOw.out, HFw.out⟩, by rw [show m = 4 from by omega]⟩
                  · have hm' : ¬ (m : Int) < (yn : Int) := by omega
                    go_wp2_with fail
                    go_meet
                    case rel => exact ⟨sA, sk, m, rfl, ⟨rfl, ⟨hle1, hle2⟩, HRr.out, HOw.out, HFw.out⟩, by rw [List.take_of_length_le (by omega), List.take_of_length_le (by omega)]⟩
              case rest =>
                obtain ⟨sA, sk, m, hs8, hSR, hm⟩ := hcut
                generalize hwn : wc = wn at hSR ⊢
                clear hwn
                obtain ⟨i0, hii, hz0, hz1, hz2⟩ := info_parts (show (Try.prog.info? 38).map (fun i => (i.zero, i.size, i.bytes)) = some (some (.agg #[.int .u8 0, .int .i64 0, .int .i64 0, .int .i64 0, .int .i64 0, .int .i64 0, .int .u8 0, .bool false, .slice none 0 0]), 9, 80) by kernel_rfl)
                have HSR := Lib.hid hSR
                have HM := Lib.hid hm
                have HSZ4 : Hid (wr.heap.size < wt.heap.size ∧ wt.heap.size ≤ wn.heap.size ∧ wz.heap.size < wt.heap.size) := Lib.hid ⟨by have := lt_of HBr3.out; have := HSX.out; omega, hSR.fr.size, lt_of HBr3.out⟩
                have HFN : Hid (Fr (fun _ => False) wr wn) := Lib.hid (HF3.out.trans hSR.fr (fun i hi (e : i = wz.heap.size) => by have := HSX.out; omega))
                have HBCn := Lib.hid (HFN.out.at_ HBCj.out (fun x => x))
                obtain ⟨rc0, rc1, rc2, rc3, rc4, rc5, rc6, rc7, rc8⟩ := cells9 hSR.r
                obtain ⟨-, cc1, -⟩ := cells11 HBCn.out
                have HOn := Lib.hid (HMR.out.own.fr HFN.out (fun _ _ x => x))
                have hjl : rs.length = j := HMR.out.len
                have hc4 : (rs.length + 1) * 80 ≤ 140737488355328 := by omega
                have HCB : Hid (cb < bd + 4 ∧ bd + 4 ≤ wr.heap.size) := Lib.hid ⟨by have := HE.out; omega, by have := HE.out; have := HFj.out.size; omega⟩
                have hc5 : ∀ X, bd + 4 ≤ (wn.alloc X).heap.size := fun X => by have := HCB.out; have := HFN.out.size; simp; omega
                have HC3 : Hid (rs.length + 1 ≤ maxLen) := Lib.hid (by unfold maxLen; omega)
                have HC4 := Lib.hid hc4
                have HC5 := Lib.hid hc5
                have HJL := Lib.hid hjl
                clear hSR hm hs8 hjl hc4 hc5
                go_wp2_with (at_builtin; refine append_one_at ERl 38 rfl _ _ 30 rfl i0 _ 80 Try.underlying30 hii hz0 hz1 hz2 rfl (bd + 4) _ _ rfl (HOn.out.alloc _) ⟨wn.heap.size, 0, none⟩ 1 ⟨K, y1 % 3, L, B, y4 % 8, SP, P, y7, sA, m, sk⟩ rfl ?c1 ?c2 HC3.out HC4.out (HC5.out _) ?_)
                case c1 => first | exact lit_cells (W := wn) (cs := [.int .u8 K, .int .i64 (y1 % 3), .int .i64 L, .int .i64 B, .int .i64 (y4 % 8), .int .i64 SP, .int .u8 P, .bool y7, .slice sA m sk]) rfl | exact fun j u hu => hu
                case c2 => intro u hu; simp [ERl] at hu; rcases hu with rfl | rfl | rfl | rfl | rfl | rfl | rfl | rfl | rfl <;> rfl
                intro v' w4 hown hgrow hat
                obtain ⟨A', c', hv, -, -⟩ := hown.reads
                rw [List.length_append, List.length_singleton, HJL.out] at hv
                subst hv
                have FG := Fr.of_grown hgrow
                have hneo : ¬ (Value.slice rv j rk).ownBlock = some cb := fun e => by have := (HMR.out.own.blk _ e).1; have := HCB.out; omega
                have B4 := FG.at_ (alloc_at HBCn.out _) hneo
                have hz4 := frozen_of B4 1
                obtain ⟨-, b41, -⟩ := cells11 B4
                have B5 : (w4.setCell ⟨cb, 1, none⟩ (.slice A' (j + 1) c')).heap[cb]? = some (.cells #[.slice (some ⟨sb, 0, none⟩) 3 3, .slice A' (j + 1) c', .slice none 0 0, .int .i64 0, .int .i64 0, .int .i64 0, .int .i64 0, .int .i64 0, .int .i64 0, .bool false, .int .i64 0] 34 (0, 0)) := set_at B4 1 _
                have F45 := (Fr.refl (fun k => k = cb) w4).setCell (p := ⟨cb, 1, none⟩) (fun _ => rfl) (.slice A' (j + 1) c')
                have FN5 := (((Fr.refl (fun k => (Value.slice rv j rk).ownBlock = some k ∨ k = cb) wn).alloc (.cells #[.int .u8 K, .int .i64 (y1 % 3), .int .i64 L, .int .i64 B, .int .i64 (y4 % 8), .int .i64 SP, .int .u8 P, .bool y7, .slice sA m sk] 38)).trans (FG.mono (S' := fun k => (Value.slice rv j rk).ownBlock = some k ∨ k = cb) (fun _ _ h => .inl h)) (fun _ _ h => h)).setCell (p := ⟨cb, 1, none⟩) (fun _ => .inr rfl) (.slice A' (j + 1) c')
                generalize hw5 : w4.setCell ⟨cb, 1, none⟩ (.slice A' (j + 1) c') = w5 at B5 F45 FN5
                have hown5 := hown.fr F45 (fun k hk e => by have := (hown.blk k hk).1; have := HCB.out; omega)
                have HNEW : Hid (MkRs w5 (bd + 4) ls ss A' c' (j + 1) (rs ++ [⟨K, y1 % 3, L, B, y4 % 8, SP, P, y7, sA, m, sk⟩])) := Lib.hid (by
                  have hml : (stg P (zs.take 4)).length = m := by rw [← HM.out, stg_length, List.length_take]; have := HSR.out.le.1; omega
                  have FR5 : Fr (fun k => (Value.slice rv j rk).ownBlock = some k ∨ k = cb) wr w5 := (HFN.out.mono (S' := fun k => (Value.slice rv j rk).ownBlock = some k ∨ k = cb) (fun _ _ x => x.elim)).trans FN5 (fun _ _ h => h)
                  have hrlt : ∀ k, (Value.slice rv j rk).ownBlock = some k → k < wr.heap.size := fun k hk => (HMR.out.own.blk k hk).2
                  have hst : Own ESt 75 w5 (bd + 4) (.slice sA m sk) (stg P (zs.take 4)) := by
                    have h1 := HSR.out.own
                    rw [HM.out] at h1
                    refine (h1.fr FN5 (fun k hk e => ?_)).low (by have := HCB.out; have := HSZ4.out; omega)
                    have h2 := (h1.blk k hk).1
                    rcases e with e | e
                    · have := hrlt k e; have := HSZ4.out; omega
                    · have := HCB.out; have := HSZ4.out; omega
                  refine ⟨by rw [List.length_append, List.length_singleton, HJL.out], hown5, fun q hq => ?_, fun q hq => ?_, fun q hq k hk => ?_⟩
                  · by_cases e : q = rs.length
                    · subst e
                      rw [getD_r, HJL.out, HYY.out, HZS.out]
                      exact ⟨HK.out.symm, rfl, HLBS.out.1, HLBS.out.2.1, rfl, HLBS.out.2.2, HPP.out.symm, rfl, by show m = _; rw [show mkP ⟨y0, y1, y2, y3, y4, y5, y6, y7, yA, yn, yc⟩ = P from HPP.out, hml]⟩
                    · rw [getD_l _ _ _ (by have := HJL.out; omega)]
                      exact HMR.out.of_ q (by have := HJL.out; omega)
                  · by_cases e : q = rs.length
                    · subst e
                      rw [getD_r, HJL.out, HYY.out, HZS.out, show mkP ⟨y0, y1, y2, y3, y4, y5, y6, y7, yA, yn, yc⟩ = P from HPP.out]
                      exact hst
                    · rw [getD_l _ _ _ (by have := HJL.out; omega)]
                      have hqj : q < j := by have := HJL.out; omega
                      have h1 := HMR.out.st q hqj
                      refine h1.fr FR5 (fun k hk e => ?_)
                      rcases e with e | e
                      · exact HMR.out.ap q hqj k hk e
                      · have := (h1.blk k hk).1; have := HCB.out; omega
                  · have hkn : k < wn.heap.size ∧ (Value.slice rv j rk).ownBlock ≠ some k := by
                      by_cases e : q = rs.length
                      · subst e
                        rw [getD_r] at hk
                        have h1 := HSR.out.own.blk k hk
                        exact ⟨h1.2, fun e => by have := hrlt k e; have := HSZ4.out; omega⟩
                      · rw [getD_l _ _ _ (by have := HJL.out; omega)] at hk
                        have hqj : q < j := by have := HJL.out; omega
                        have := ((HMR.out.st q hqj).blk k hk).2
                        exact ⟨by have := HFN.out.size; omega, HMR.out.ap q hqj k hk⟩
                    intro e
                    rcases hat with h | h
                    · rw [h] at e; exact hkn.2 e
                    · rw [h] at e
                      injection e with e
                      have := hkn.1
                      omega)
                have HF5 : Hid (Fr (fun k => k = cb) wo1 w5) := Lib.hid ((HFj.out.trans HFN.out (fun _ _ x => x.elim)).trans FN5 (fun i hi e => by
                  rcases e with e | e
                  · have := (HMR.out.own.blk i e).1; have := HE.out; omega
                  · exact e))
                have HB5 := Lib.hid B5
                clear B4 B5 FG F45 FN5 hown5 hown hgrow hat hneo hii hz0 hz1 hz2
                go_wp2
                go_roundw
                case rel => exact ⟨j + 1, by go_num, A', c', _, hC, HB5.out, HNEW.out, HF5.out⟩
                case measure => simp [intOf]; omega
      · have HREL : Hid (MkR wo1 cb sb (bd + 4) ls ss n0 (nRul n0) wr) := Lib.hid (by
          obtain rfl : j = nRul n0 := by omega
          exact ⟨rv, rk, rs, Nat.le_refl _, HBCj.out, HMR.out, HFj.out⟩)
        by_cases h1 : j < n0
        · have h1' : (j : Int) < (n0 : Int) := by omega
          have h2' : ¬ (j : Int) < 8 := by unfold nRul at hC; split at hC <;> (try split at hC) <;> omega
          have h3' : ((j : Int) == 0) = false := by simp; omega
          go_wp2_with fail
          go_meet
          case rel => exact HREL.out
        · have h1' : ¬ (j : Int) < (n0 : Int) := by omega
          have h3' : ((j : Int) == 0) = false := by simp; unfold nRul at hC; split at hC <;> (try split at hC) <;> omega
          go_wp2_with fail
          go_meet
          case rel => exact HREL.out
  case rest =>
    go_step
    exact Make_B W A0 A1 n0 k0 n1 k1 gb gd gp go_ gk gl ls ss sl wo1 wc bd rb sb cb HDW HBD HBS HBZ HF1 HBY HE hcut _ _ _ _ _ _ _ _ _ _ _ _ _ _ _ _ _ _ _ _ _ _ _ _ _ _ _ _ _ _ _ _ _ _ _ _ _ _ _ _ _ _ _ _ _ _ _ _ _ _ _ _ _ _ _ _ _ _ _ _ _ _ _ _ _ _ _ _ _ _ _ _ _ _ _ _ _ _ _ _ _ _ _ _ _ _ _ _ _ _ _ _ _ _ _ _ _ _ _ _ _ _ _ _ _ _ _ _ _ _ _ _ _ _ _ _ _ _ _ _ _ _ _ _ _ _ _ _ _ _ _ _ _ _ _ _ _ _ _ _ _ _ _ _ _ _ _ _ _ _ _ _ _ _ _ _ _ _ _ _ _ _ _ _ _ _ _ _ _ _ _ _ _ _ _ _ _ _ _ _ _ _ _ _ _ _ _ _ _ _ _ _ _ _ _ _ _ _ _ _ _ _ _ _ _ _ _ _ _ _ _ _ _ _ _ _ _ _ _ _ _ _ _ _ _ _ _ _ _ _ _ _ _ _ _ _ _ _ _ _ _ _ _ _ _ _ _ _ _ _ _ _ _ _ _ _ _ _ _ _ _ _ _ _ _ _ _ _ _ _ _ _ _ _ _ _ _ _ _ _ _ _ _ _ _ _ _ _ _ _ _ _ _ _ _ _ _ _ _ _ _ _ _ _ _ _ _ _ _ _ _ _ _ _

end Go.Proofs.Ytahddolplklopaa
