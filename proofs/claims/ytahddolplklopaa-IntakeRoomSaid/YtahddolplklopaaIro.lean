/- Iro. -/
import Derived.Test.YtahddolplklopaaChecked
import Derived.WalkKit
import Derived.Laws.IdiomCopy
import Derived.Deep.QuietTactic
import Derived.BigQuiet
import Derived.Lib.Hide
import Derived.OpenShut
import Derived.StillTailTactics
import Derived.Deep.RegionWith
import Derived.Deep.RegionLaw
import Derived.Deep.Slices
import Derived.Deep.RegionHeld3
import Derived.OwnWalk
import Derived.Deep.DeepCutAuto
import Derived.Deep.CutRange
import Derived.Test.YtahddolplklopaaBase
import Derived.Test.YtahddolplklopaaCalm
import Derived.Test.YtahddolplklopaaCalmT
import Derived.Test.YtahddolplklopaaCel
import Derived.Test.YtahddolplklopaaApp
import Derived.Test.YtahddolplklopaaRE
import Derived.Test.YtahddolplklopaaREB
import Derived.Test.YtahddolplklopaaREC
import Derived.Test.YtahddolplklopaaREA
import Derived.Test.YtahddolplklopaaBq
import Derived.Test.YtahddolplklopaaBp
import Derived.Test.YtahddolplklopaaBx
import Derived.Test.YtahddolplklopaaBr
import Derived.Test.YtahddolplklopaaBk0
import Derived.Test.YtahddolplklopaaBt
import Derived.Test.YtahddolplklopaaBk
import Derived.Test.YtahddolplklopaaBu
import Derived.Test.YtahddolplklopaaBv
import Derived.Maps.AppendAt
import Derived.Test.YtahddolplklopaaMkD
import Derived.Test.YtahddolplklopaaMkE
import Derived.Test.YtahddolplklopaaClk
import Derived.Test.YtahddolplklopaaIk
import Derived.Test.YtahddolplklopaaMkM
import Derived.Test.YtahddolplklopaaIl
import Derived.BigRegion
import Derived.Deep.CutBlock
import Derived.Test.YtahddolplklopaaEqa
import Derived.Test.YtahddolplklopaaIlw
namespace Go.Proofs.Ytahddolplklopaa
open Go.RowKit
set_option linter.unusedVariables false
set_option linter.unusedSimpArgs false

set_option maxRecDepth 100000 in
set_option maxHeartbeats 40000000 in
theorem IntakeRoom_walk (A0 A1 : Option Addr) (n0 k0 n1 k1 : Nat) (gb gd gp go_ : Int) (gk : Bool) (gl : Int) (ls : List Ln) (ss : List (List Int)) (sl : List Int) (A : Option Addr) (n cap : Nat) (zs : List Ac) (W : World) (hd : Dft W A0 n0 ls ss A1 n1 sl) (hb : byte gb ∧ byte gd ∧ byte gp ∧ byte go_ ∧ byte gl) (hr : Reads EAc W A n zs) (hw : ∀ y, y ∈ zs → okAc y) (hcap : n ≤ cap ∧ cap ≤ maxLen) :
    Calls Try.prog 4 #[.agg #[.slice A0 n0 k0, .slice A1 n1 k1, .int .u8 gb, .int .u8 gd, .int .u8 gp, .int .u8 go_, .bool gk, .int .u8 gl], .slice A n cap] W fun e w' => e = .returned (.bool true) ∧ Below W.heap.size W w' := by
  have BD := alloc_is (w := W) (n := W.heap.size) (.cells #[.slice A0 n0 k0, .slice A1 n1 k1, .int .u8 gb, .int .u8 gd, .int .u8 gp, .int .u8 go_, .bool gk, .int .u8 gl] 25) rfl
  have F1 := (Fr.refl (fun _ => False) W).alloc (.cells #[.slice A0 n0 k0, .slice A1 n1 k1, .int .u8 gb, .int .u8 gd, .int .u8 gp, .int .u8 go_, .bool gk, .int .u8 gl] 25)
  generalize hw1 : W.alloc (.cells #[.slice A0 n0 k0, .slice A1 n1 k1, .int .u8 gb, .int .u8 gd, .int .u8 gp, .int .u8 go_, .bool gk, .int .u8 gl] 25) = w1 at BD F1
  have HBD := Lib.hid BD
  have HF1 := Lib.hid F1
  have HD := Lib.hid (hd.calm F1)
  have HBY := Lib.hid hb
  clear BD F1 hd hb
  by_cases hlim : n ≤ 100
  · have hlim' : ¬ (100 : Int) < (n : Int) := by omega
    go_enter Try.func4, Try.ntmps4
    go_wp2_with fail
    refine (refuses_any _).mono ?_
    rintro e w2 ⟨rfl, F_w2⟩
    have G_w2 := Lib.hid (F_w2)
    clear F_w2
    clear hw1
    obtain ⟨q0, q1, q2, q3, q4, q5, q6, q7⟩ := cells8 (G_w2.out.at_ HBD.out (fun x => x))
    have HSH := Lib.hid (short_any w2 A0 A1 n0 k0 n1 k1 gb gd gp go_ gk gl ls (HD.out.rd.fr G_w2.out (fun _ _ x => x)))
    go_wp2_with fail
    refine HSH.out.mono ?_
    rintro e w3 ⟨b, rfl, F3⟩
    have G_w3 := Lib.hid (G_w2.out.step F3 nop)
    clear F3 q0 q1 q2 q3 q4 q5 q6 q7
    cases b
    · go_wp2_with fail
      refine (refuses_any _).mono ?_
      rintro e w4 ⟨rfl, F_w4⟩
      have G_w4 := Lib.hid (G_w3.out.step F_w4 nop)
      clear F_w4
      go_wp2_with fail
      go_ret
      exact ⟨rfl, (HF1.out.step G_w4.out nop).below⟩
    · obtain ⟨q0, q1, q2, q3, q4, q5, q6, q7⟩ := cells8 (G_w3.out.at_ HBD.out (fun x => x))
      have HM := Lib.hid (Make_c w3 A0 A1 n0 k0 n1 k1 gb gd gp go_ gk gl ls ss sl (HD.out.calm G_w3.out) HBY.out)
      go_wp2_with fail
      refine HM.out.mono ?_
      rintro e w4 ⟨c, sb, rs, vs, tbl, rfl, mk⟩
      clear q0 q1 q2 q3 q4 q5 q6 q7
      have G_w4 := Lib.hid (G_w3.out.step mk.fr nop)
      have Bz5 : (w4.alloc (.cells #[.slice none 0 0, .slice none 0 0, .slice none 0 0, .int .i64 0, .int .i64 0, .int .i64 0, .int .i64 0, .int .i64 0, .int .i64 0, .bool false, .int .i64 0] 34)).heap[w4.heap.size]? = some (.cells #[.slice none 0 0, .slice none 0 0, .slice none 0 0, .int .i64 0, .int .i64 0, .int .i64 0, .int .i64 0, .int .i64 0, .int .i64 0, .bool false, .int .i64 0] 34 (0, 0)) := alloc_is _ rfl
      have Fz5 := (Fr.refl (fun _ => False) w4).alloc (.cells #[.slice none 0 0, .slice none 0 0, .slice none 0 0, .int .i64 0, .int .i64 0, .int .i64 0, .int .i64 0, .int .i64 0, .int .i64 0, .bool false, .int .i64 0] 34)
      generalize hwm5 : w4.alloc (.cells #[.slice none 0 0, .slice none 0 0, .slice none 0 0, .int .i64 0, .int .i64 0, .int .i64 0, .int .i64 0, .int .i64 0, .int .i64 0, .bool false, .int .i64 0] 34) = wm5 at Bz5 Fz5
      obtain ⟨c5_0, c5_1, c5_2, c5_3, c5_4, c5_5, c5_6, c5_7, c5_8, c5_9, c5_10⟩ := cells11 Bz5
      have z5_0 := frozen_of Bz5 0
      have z5_1 := frozen_of Bz5 1
      have z5_2 := frozen_of Bz5 2
      have z5_3 := frozen_of Bz5 3
      have z5_4 := frozen_of Bz5 4
      have z5_5 := frozen_of Bz5 5
      have z5_6 := frozen_of Bz5 6
      have z5_7 := frozen_of Bz5 7
      have z5_8 := frozen_of Bz5 8
      have z5_9 := frozen_of Bz5 9
      have z5_10 := frozen_of Bz5 10
      have B5 := put11y (y0 := .slice c.s1 c.s2 c.s3) (y1 := .slice c.rv c.N c.rk) (y2 := .slice c.tv c.t c.tk) (y3 := .int .i64 c.b0) (y4 := .int .i64 c.b1) (y5 := .int .i64 c.b2) (y6 := .int .i64 c.dr) (y7 := .int .i64 c.pa) (y8 := .int .i64 c.of_) (y9 := .bool c.br) (y10 := .int .i64 c.lg) Bz5
      have Fo5 := (Fr.refl (fun i => i = w4.heap.size) wm5).put11 (b := w4.heap.size) (fun _ => rfl) (.slice c.s1 c.s2 c.s3) (.slice c.rv c.N c.rk) (.slice c.tv c.t c.tk) (.int .i64 c.b0) (.int .i64 c.b1) (.int .i64 c.b2) (.int .i64 c.dr) (.int .i64 c.pa) (.int .i64 c.of_) (.bool c.br) (.int .i64 c.lg)
      generalize hwo5 : (((((((((((wm5.setCell ⟨w4.heap.size, 0, none⟩ (.slice c.s1 c.s2 c.s3)).setCell ⟨w4.heap.size, 1, none⟩ (.slice c.rv c.N c.rk)).setCell ⟨w4.heap.size, 2, none⟩ (.slice c.tv c.t c.tk)).setCell ⟨w4.heap.size, 3, none⟩ (.int .i64 c.b0)).setCell ⟨w4.heap.size, 4, none⟩ (.int .i64 c.b1)).setCell ⟨w4.heap.size, 5, none⟩ (.int .i64 c.b2)).setCell ⟨w4.heap.size, 6, none⟩ (.int .i64 c.dr)).setCell ⟨w4.heap.size, 7, none⟩ (.int .i64 c.pa)).setCell ⟨w4.heap.size, 8, none⟩ (.int .i64 c.of_)).setCell ⟨w4.heap.size, 9, none⟩ (.bool c.br)).setCell ⟨w4.heap.size, 10, none⟩ (.int .i64 c.lg)) = wo5 at B5 Fo5
      have FF5 := Fz5.trans Fo5 (fun i hi (h : i = w4.heap.size) => by omega)
      obtain ⟨d5_0, d5_1, d5_2, d5_3, d5_4, d5_5, d5_6, d5_7, d5_8, d5_9, d5_10⟩ := cells11 B5
      have HBC := Lib.hid B5
      have HFC := Lib.hid FF5
      have HMK := Lib.hid mk
      have HNW := Lib.hid (iknew wo5 c rs (mk.rd.fr FF5 (fun _ _ x => x)) mk.pr (by have := mk.N8; omega))
      clear B5 FF5 mk
      go_wp2_with fail
      clear c5_0 z5_0 c5_1 z5_1 c5_2 z5_2 c5_3 z5_3 c5_4 z5_4 c5_5 z5_5 c5_6 z5_6 c5_7 z5_7 c5_8 z5_8 c5_9 z5_9 c5_10 z5_10 d5_0 d5_1 d5_2 d5_3 d5_4 d5_5 d5_6 d5_7 d5_8 d5_9 d5_10 Bz5 Fz5 Fo5 hwm5 hwo5
      refine HNW.out.mono ?_
      rintro e w5 ⟨ib, q, qs, tb, rfl, I5, F5, hup⟩
      have HLW : Hid (Lw W w4.heap.size c ib q qs tb rs ⟨[], List.replicate c.N false, 0, 0⟩ w5) := Lib.hid ⟨F5.at_ HBC.out (fun x => x), I5, ((HF1.out.step G_w4.out nop).step HFC.out nop).step F5 nop⟩
      have HLC : Hid (LwC W w4.heap.size c ib q qs tb) := Lib.hid ⟨fun h => by have := hup _ h; have := lt_of HBC.out; omega, fun k hk => by have := hup k hk; have := HFC.out.size; have := (HF1.out.step G_w4.out nop).size; omega, HMK.out.N8, HMK.out.t6, (HF1.out.step G_w4.out nop).size⟩
      clear I5 F5 hup
      generalize w4.heap.size = cb at HLW HLC ⊢
      have HL := Lib.hid hr.1
      have HRD := Lib.hid hr
      have HWA := Lib.hid hw
      clear hr hw
      have HBB : Hid ((RE.room c.b0 : Int) = c.b0 ∧ (RE.room c.b1 : Int) = c.b1 ∧ (RE.room c.b2 : Int) = c.b2) := Lib.hid (by
        rw [HMK.out.cf.b0, HMK.out.cf.b1, HMK.out.cf.b2]; unfold RE.room; omega)
      clear HNW HM HSH HMK HFC HBC
      go_wp2_with fail
      go_loopw [7] (fun v wr => ∃ (j : Nat) (M : Md), v = .int .i64 j ∧ j ≤ n ∧ Lw W cb c ib q qs tb rs M wr ∧ 0 ≤ M.ref ∧ M.ref ≤ (j : Int)) (fun v _ => n - (intOf v).toNat)
      case atStart => exact ⟨0, _, rfl, Nat.zero_le _, HLW.out, by simp, by simp⟩
      case round =>
        clear HLW
        obtain ⟨j, M, rfl, hj, hL, hr0, hr1⟩ := hrel
        have HLj := Lib.hid hL
        clear hL
        by_cases hlt : j < n
        · have hlt' : (j : Int) < (n : Int) := by omega
          have rz := HRD.out.fr HLj.out.fr (fun _ _ x => x)
          obtain ⟨zb, zo, rfl, hzb⟩ := rz.plain (by omega)
          obtain ⟨y, hy⟩ : ∃ y, zs.getD j EAc.z = y := ⟨_, rfl⟩
          obtain ⟨y0, y1, y2, y3⟩ := y
          have hok := ac_ok HL.out HWA.out hlt
          rw [hy] at hok
          have hN8 := HLC.out.N8
          have hrm := rem_N (y := y1) (N := (c.N : Int)) hok.2.1 (by omega)
          have hb1 : 0 ≤ y1 := hok.2.1.1
          have hb2 : y1 ≤ 255 := hok.2.1.2
          obtain ⟨kk, hkk⟩ : ∃ kk, y1.tmod (c.N : Int) = kk := ⟨_, rfl⟩
          rw [hkk] at hrm
          have HRM := Lib.hid hrm
          have hn0 : ¬ ((c.N : Int) = 0) := by omega
          have hn0' : ((c.N : Int) == 0) = false := by simp; omega
          have hn2 : ¬ c.N = 0 := by omega
          have hk100 : kk ≤ 100000 := Int.le_trans (Int.le_of_lt hrm.2) (by omega)
          have hy100 : y1 ≤ 100000 := by omega
          have hw1 : IntKind.i64.wrap y1 = y1 := i64_in hb1 hy100
          have hw2 : wrap64 y1 = y1 := w64_in hb1 hy100
          have hw3 : IntKind.i64.wrap kk = kk := i64_in hrm.1 hk100
          have hw4 : wrap64 kk = kk := w64_in hrm.1 hk100
          obtain ⟨r, hr_⟩ : ∃ r, ofr c rs M (j : Int) kk y3 = r := ⟨_, rfl⟩
          have hrf := ofr_ref c rs M (j : Int) kk y3
          rw [hr_] at hrf
          obtain ⟨rb, rM⟩ := r
          have HRF := Lib.hid hrf
          have HRR := Lib.hid hr_
          have HYY := Lib.hid hy
          have HS : Hid (∀ w', Fr (inI ib q qs tb) wr w' → w'.cell? ⟨zb, zo + j * 4 + 1, none⟩ = some (.int .u8 y1) ∧ w'.cell? ⟨zb, zo + j * 4 + 3, none⟩ = some (.bool y3) ∧ w'.cell? ⟨cb, 1, none⟩ = some (.slice c.rv c.N c.rk)) := Lib.hid (fun w' h => by
            have h1 := (HRD.out.fr (HLj.out.fr.step h HLC.out.up) (fun _ _ x => x)).ac hlt HYY.out
            have h2 := cells11 (h.at_ HLj.out.cf HLC.out.ne)
            exact ⟨h1.2.1, h1.2.2.2, h2.2.1⟩)
          have HOF : Hid (∀ w', Fr (fun _ => False) wr w' → Calls Try.prog 15 #[.pointer (some ⟨ib, 0, none⟩), .int .i64 (j : Int), .int .i64 kk, .bool y3] w' fun e w'' => e = .returned (.bool rb) ∧ Ik w'' ib q qs tb c rs rM ∧ Fr (inI ib q qs tb) wr w'') := Lib.hid (fun w' h => by
            have := ikoffer w' ib q qs tb c rs M (HLj.out.ik.calm h) (j : Int) kk y3 ⟨hr0, by omega⟩
            rw [HRR.out] at this
            exact this.mono fun e w'' ⟨h1, h2, h3⟩ => ⟨h1, h2, (h.mono (S' := inI ib q qs tb) (fun _ _ x => x.elim)).trans h3 (fun _ _ x => x)⟩)
          have hF0 : Fr (fun _ => False) wr wr.drew := (Fr.refl _ _).drew
          clear rz hy hok hrm hr_ hrf hb1 hb2 hk100 hy100
          go_wp2_with fail
          go_region_held3 (fun w' => w'.cell? ⟨zb, zo + j * 4 + 1, none⟩ = some (.int .u8 y1) ∧ w'.cell? ⟨zb, zo + j * 4 + 3, none⟩ = some (.bool y3) ∧ w'.cell? ⟨cb, 1, none⟩ = some (.slice c.rv c.N c.rk))
            (first | exact HS.out _ (by assumption) | exact HS.out _ (Fr.mono (S := fun _ => False) (by assumption) (fun _ _ x => x.elim)))
            ((go_at_call 15; refine (HOF.out _ (by assumption)).mono ?_; rintro e w6 ⟨rfl, I6, F6⟩))
          have HL6 : Hid (Lw W cb c ib q qs tb rs rM w6) := Lib.hid (HLj.out.step HLC.out F6 I6)
          clear I6 F6 hF0 HS HOF hw1 hw2 hw3 hw4 hkk hn0 hn0' hn2
          go_wp2_with fail
          refine (ikwaiting w6 ib q qs tb c rs rM HL6.out.ik).mono ?_
          rintro e w7 ⟨rfl, F7⟩
          have HL7 := Lib.hid (HL6.out.calm F7)
          have hroom := HL7.out.room
          have hbb := HBB.out
          obtain ⟨a1, ha1⟩ : ∃ a : Nat, (bnd 1 rM.ms).length = a := ⟨_, rfl⟩
          obtain ⟨a2, ha2⟩ : ∃ a : Nat, (bnd 2 rM.ms).length = a := ⟨_, rfl⟩
          obtain ⟨a3, ha3⟩ : ∃ a : Nat, (bnd 3 rM.ms).length = a := ⟨_, rfl⟩
          rw [ha1, ha2, ha3] at hroom
          rw [ha1, ha2, ha3]
          have g1 : ¬ c.b0 < (a1 : Int) := by omega
          have g2 : ¬ c.b1 < (a2 : Int) := by omega
          have g3 : ¬ c.b2 < (a3 : Int) := by omega
          clear F7 hroom hbb ha1 ha2 ha3
          have Bz8 : (w7.alloc (.cells #[.int .i64 0, .int .i64 0, .int .i64 0] 32)).heap[w7.heap.size]? = some (.cells #[.int .i64 0, .int .i64 0, .int .i64 0] 32 (0, 0)) := alloc_is _ rfl
          have Fz8 := (Fr.refl (fun _ => False) w7).alloc (.cells #[.int .i64 0, .int .i64 0, .int .i64 0] 32)
          generalize hwm8 : w7.alloc (.cells #[.int .i64 0, .int .i64 0, .int .i64 0] 32) = wm8 at Bz8 Fz8
          obtain ⟨c8_0, c8_1, c8_2⟩ := cells3 Bz8
          have z8_0 := frozen_of Bz8 0
          have z8_1 := frozen_of Bz8 1
          have z8_2 := frozen_of Bz8 2
          have B8 := put3y (y0 := .int .i64 (a1 : Int)) (y1 := .int .i64 (a2 : Int)) (y2 := .int .i64 (a3 : Int)) Bz8
          have Fo8 := (Fr.refl (fun i => i = w7.heap.size) wm8).put3 (b := w7.heap.size) (fun _ => rfl) (.int .i64 (a1 : Int)) (.int .i64 (a2 : Int)) (.int .i64 (a3 : Int))
          generalize hwo8 : (((wm8.setCell ⟨w7.heap.size, 0, none⟩ (.int .i64 (a1 : Int))).setCell ⟨w7.heap.size, 1, none⟩ (.int .i64 (a2 : Int))).setCell ⟨w7.heap.size, 2, none⟩ (.int .i64 (a3 : Int))) = wo8 at B8 Fo8
          have FF8 := Fz8.trans Fo8 (fun i hi (h : i = w7.heap.size) => by omega)
          obtain ⟨d8_0, d8_1, d8_2⟩ := cells3 B8
          have HL8 := Lib.hid (HL7.out.calm FF8)
          obtain ⟨-, -, -, k3, k4, k5, -⟩ := cells11 HL8.out.cf
          have hrf : M.ref ≤ rM.ref ∧ rM.ref ≤ M.ref + 1 := HRF.out
          clear FF8 B8
          go_wp2_with fail
          go_roundw
          case rel => exact ⟨j + 1, rM, by go_num, by omega, HL8.out, by omega, by push_cast; omega⟩
          case measure => simp [intOf]; omega
        · have hlt' : ¬ (j : Int) < (n : Int) := by omega
          go_wp2_with fail
          go_ret
          exact ⟨rfl, HLj.out.fr.below⟩
  · have hlim' : (100 : Int) < (n : Int) := by omega
    go_enter Try.func4, Try.ntmps4
    go_wp2_with fail
    refine (refuses_any _).mono ?_
    rintro e w2 ⟨rfl, F_w2⟩
    have G_w2 := Lib.hid (F_w2)
    clear F_w2
    clear hw1
    obtain ⟨q0, q1, q2, q3, q4, q5, q6, q7⟩ := cells8 (G_w2.out.at_ HBD.out (fun x => x))
    have HSH := Lib.hid (short_any w2 A0 A1 n0 k0 n1 k1 gb gd gp go_ gk gl ls (HD.out.rd.fr G_w2.out (fun _ _ x => x)))
    go_wp2_with fail
    refine HSH.out.mono ?_
    rintro e w3 ⟨b, rfl, F3⟩
    have G_w3 := Lib.hid (G_w2.out.step F3 nop)
    clear F3 q0 q1 q2 q3 q4 q5 q6 q7
    cases b
    · go_wp2_with fail
      refine (refuses_any _).mono ?_
      rintro e w4 ⟨rfl, F_w4⟩
      have G_w4 := Lib.hid (G_w3.out.step F_w4 nop)
      clear F_w4
      go_wp2_with fail
      go_ret
      exact ⟨rfl, (HF1.out.step G_w4.out nop).below⟩
    · go_wp2_with fail
      refine (refuses_any _).mono ?_
      rintro e w4 ⟨rfl, F_w4⟩
      have G_w4 := Lib.hid (G_w3.out.step F_w4 nop)
      clear F_w4
      go_wp2_with fail
      go_ret
      exact ⟨rfl, (HF1.out.step G_w4.out nop).below⟩

end Go.Proofs.Ytahddolplklopaa
