/- Ion. -/
import Derived.Test.YtahddolplklopaaChecked
import Derived.WalkKit
import Derived.Laws.IdiomCopy
import Derived.Deep.QuietTactic
import Derived.BigQuiet
import Derived.Lib.Hide
import Derived.OpenShut
import Derived.StillTailTactics
import Derived.Deep.RegionWith
import Derived.Deep.RegionLaw
import Derived.Deep.Slices
import Derived.Deep.RegionHeld3
import Derived.OwnWalk
import Derived.Deep.DeepCutAuto
import Derived.Deep.CutRange
import Derived.Test.YtahddolplklopaaBase
import Derived.Test.YtahddolplklopaaCalm
import Derived.Test.YtahddolplklopaaCalmT
import Derived.Test.YtahddolplklopaaCel
import Derived.Test.YtahddolplklopaaApp
import Derived.Test.YtahddolplklopaaRE
import Derived.Test.YtahddolplklopaaREB
import Derived.Test.YtahddolplklopaaREC
import Derived.Test.YtahddolplklopaaREA
import Derived.Test.YtahddolplklopaaBq
import Derived.Test.YtahddolplklopaaBp
import Derived.Test.YtahddolplklopaaBx
import Derived.Test.YtahddolplklopaaBr
import Derived.Test.YtahddolplklopaaBk0
import Derived.Test.YtahddolplklopaaBt
import Derived.Test.YtahddolplklopaaBk
import Derived.Test.YtahddolplklopaaBu
import Derived.Test.YtahddolplklopaaBv
import Derived.Maps.AppendAt
import Derived.Test.YtahddolplklopaaMkD
import Derived.Test.YtahddolplklopaaMkE
import Derived.Test.YtahddolplklopaaClk
import Derived.Test.YtahddolplklopaaIk
import Derived.Test.YtahddolplklopaaMkM
import Derived.Test.YtahddolplklopaaIl
import Derived.BigRegion
import Derived.Deep.CutBlock
import Derived.Test.YtahddolplklopaaEqa
import Derived.Test.YtahddolplklopaaIlw
namespace Go.Proofs.Ytahddolplklopaa
open Go.RowKit
set_option linter.unusedVariables false
set_option linter.unusedSimpArgs false

/-! ### What is told already -/
theorem ofr_again {c : Cf} {rs : List Rl} {M M' : Md} {now k : Int} {on : Bool} (hl : M.told.length = c.N) (h : ofr c rs M now k on = (true, M')) : ofr c rs M' now k on = (true, M') := by
  unfold ofr at h
  by_cases h1 : k < 0 ∨ (c.N : Int) ≤ k ∨ M.told.getD k.toNat false = on
  · rw [if_pos h1] at h
    have e : M = M' := (Prod.mk.inj h).2
    subst e
    unfold ofr; rw [if_pos h1]
  · rw [if_neg h1] at h
    split at h
    · have e := (Prod.mk.inj h).2
      subst e
      have hset : (M.told.set k.toNat on).getD k.toNat false = on := getD_set_same _ _ _ _ (by omega)
      unfold ofr
      rw [if_pos (.inr (.inr hset))]
    · exact absurd (Prod.mk.inj h).1 (by simp)
attribute [local go_sem] eq_arr3
set_option maxRecDepth 100000 in
set_option maxHeartbeats 40000000 in
theorem IntakeOnce_walk (A0 A1 : Option Addr) (n0 k0 n1 k1 : Nat) (gb gd gp go_ : Int) (gk : Bool) (gl : Int) (ls : List Ln) (ss : List (List Int)) (sl : List Int) (A : Option Addr) (n cap : Nat) (zs : List Ac) (W : World) (hd : Dft W A0 n0 ls ss A1 n1 sl) (hb : byte gb ∧ byte gd ∧ byte gp ∧ byte go_ ∧ byte gl) (hr : Reads EAc W A n zs) (hw : ∀ y, y ∈ zs → okAc y) (hcap : n ≤ cap ∧ cap ≤ maxLen) :
    Calls Try.prog 5 #[.agg #[.slice A0 n0 k0, .slice A1 n1 k1, .int .u8 gb, .int .u8 gd, .int .u8 gp, .int .u8 go_, .bool gk, .int .u8 gl], .slice A n cap] W fun e w' => e = .returned (.bool true) ∧ Below W.heap.size W w' := by
  have BD := alloc_is (w := W) (n := W.heap.size) (.cells #[.slice A0 n0 k0, .slice A1 n1 k1, .int .u8 gb, .int .u8 gd, .int .u8 gp, .int .u8 go_, .bool gk, .int .u8 gl] 25) rfl
  have F1 := (Fr.refl (fun _ => False) W).alloc (.cells #[.slice A0 n0 k0, .slice A1 n1 k1, .int .u8 gb, .int .u8 gd, .int .u8 gp, .int .u8 go_, .bool gk, .int .u8 gl] 25)
  generalize hw1 : W.alloc (.cells #[.slice A0 n0 k0, .slice A1 n1 k1, .int .u8 gb, .int .u8 gd, .int .u8 gp, .int .u8 go_, .bool gk, .int .u8 gl] 25) = w1 at BD F1
  have HBD := Lib.hid BD
  have HF1 := Lib.hid F1
  have HD := Lib.hid (hd.calm F1)
  have HBY := Lib.hid hb
  clear BD F1 hd hb
  by_cases hlim : n ≤ 60
  · have hlim' : ¬ (60 : Int) < (n : Int) := by omega
    go_enter Try.func5, Try.ntmps5
    go_wp2_with fail
    refine (refuses_any _).mono ?_
    rintro e w2 ⟨rfl, F_w2⟩
    have G_w2 := Lib.hid (F_w2)
    clear F_w2
    clear hw1
    obtain ⟨q0, q1, q2, q3, q4, q5, q6, q7⟩ := cells8 (G_w2.out.at_ HBD.out (fun x => x))
    have HSH := Lib.hid (short_any w2 A0 A1 n0 k0 n1 k1 gb gd gp go_ gk gl ls (HD.out.rd.fr G_w2.out (fun _ _ x => x)))
    go_wp2_with fail
    refine HSH.out.mono ?_
    rintro e w3 ⟨b, rfl, F3⟩
    have G_w3 := Lib.hid (G_w2.out.step F3 nop)
    clear F3 q0 q1 q2 q3 q4 q5 q6 q7
    cases b
    · go_wp2_with fail
      refine (refuses_any _).mono ?_
      rintro e w4 ⟨rfl, F_w4⟩
      have G_w4 := Lib.hid (G_w3.out.step F_w4 nop)
      clear F_w4
      go_wp2_with fail
      go_ret
      exact ⟨rfl, (HF1.out.step G_w4.out nop).below⟩
    · obtain ⟨q0, q1, q2, q3, q4, q5, q6, q7⟩ := cells8 (G_w3.out.at_ HBD.out (fun x => x))
      have HM := Lib.hid (Make_c w3 A0 A1 n0 k0 n1 k1 gb gd gp go_ gk gl ls ss sl (HD.out.calm G_w3.out) HBY.out)
      go_wp2_with fail
      refine HM.out.mono ?_
      rintro e w4 ⟨c, sb, rs, vs, tbl, rfl, mk⟩
      clear q0 q1 q2 q3 q4 q5 q6 q7
      have G_w4 := Lib.hid (G_w3.out.step mk.fr nop)
      have Bz5 : (w4.alloc (.cells #[.slice none 0 0, .slice none 0 0, .slice none 0 0, .int .i64 0, .int .i64 0, .int .i64 0, .int .i64 0, .int .i64 0, .int .i64 0, .bool false, .int .i64 0] 34)).heap[w4.heap.size]? = some (.cells #[.slice none 0 0, .slice none 0 0, .slice none 0 0, .int .i64 0, .int .i64 0, .int .i64 0, .int .i64 0, .int .i64 0, .int .i64 0, .bool false, .int .i64 0] 34 (0, 0)) := alloc_is _ rfl
      have Fz5 := (Fr.refl (fun _ => False) w4).alloc (.cells #[.slice none 0 0, .slice none 0 0, .slice none 0 0, .int .i64 0, .int .i64 0, .int .i64 0, .int .i64 0, .int .i64 0, .int .i64 0, .bool false, .int .i64 0] 34)
      generalize hwm5 : w4.alloc (.cells #[.slice none 0 0, .slice none 0 0, .slice none 0 0, .int .i64 0, .int .i64 0, .int .i64 0, .int .i64 0, .int .i64 0, .int .i64 0, .bool false, .int .i64 0] 34) = wm5 at Bz5 Fz5
      obtain ⟨c5_0, c5_1, c5_2, c5_3, c5_4, c5_5, c5_6, c5_7, c5_8, c5_9, c5_10⟩ := cells11 Bz5
      have z5_0 := frozen_of Bz5 0
      have z5_1 := frozen_of Bz5 1
      have z5_2 := frozen_of Bz5 2
      have z5_3 := frozen_of Bz5 3
      have z5_4 := frozen_of Bz5 4
      have z5_5 := frozen_of Bz5 5
      have z5_6 := frozen_of Bz5 6
      have z5_7 := frozen_of Bz5 7
      have z5_8 := frozen_of Bz5 8
      have z5_9 := frozen_of Bz5 9
      have z5_10 := frozen_of Bz5 10
      have B5 := put11y (y0 := .slice c.s1 c.s2 c.s3) (y1 := .slice c.rv c.N c.rk) (y2 := .slice c.tv c.t c.tk) (y3 := .int .i64 c.b0) (y4 := .int .i64 c.b1) (y5 := .int .i64 c.b2) (y6 := .int .i64 c.dr) (y7 := .int .i64 c.pa) (y8 := .int .i64 c.of_) (y9 := .bool c.br) (y10 := .int .i64 c.lg) Bz5
      have Fo5 := (Fr.refl (fun i => i = w4.heap.size) wm5).put11 (b := w4.heap.size) (fun _ => rfl) (.slice c.s1 c.s2 c.s3) (.slice c.rv c.N c.rk) (.slice c.tv c.t c.tk) (.int .i64 c.b0) (.int .i64 c.b1) (.int .i64 c.b2) (.int .i64 c.dr) (.int .i64 c.pa) (.int .i64 c.of_) (.bool c.br) (.int .i64 c.lg)
      generalize hwo5 : (((((((((((wm5.setCell ⟨w4.heap.size, 0, none⟩ (.slice c.s1 c.s2 c.s3)).setCell ⟨w4.heap.size, 1, none⟩ (.slice c.rv c.N c.rk)).setCell ⟨w4.heap.size, 2, none⟩ (.slice c.tv c.t c.tk)).setCell ⟨w4.heap.size, 3, none⟩ (.int .i64 c.b0)).setCell ⟨w4.heap.size, 4, none⟩ (.int .i64 c.b1)).setCell ⟨w4.heap.size, 5, none⟩ (.int .i64 c.b2)).setCell ⟨w4.heap.size, 6, none⟩ (.int .i64 c.dr)).setCell ⟨w4.heap.size, 7, none⟩ (.int .i64 c.pa)).setCell ⟨w4.heap.size, 8, none⟩ (.int .i64 c.of_)).setCell ⟨w4.heap.size, 9, none⟩ (.bool c.br)).setCell ⟨w4.heap.size, 10, none⟩ (.int .i64 c.lg)) = wo5 at B5 Fo5
      have FF5 := Fz5.trans Fo5 (fun i hi (h : i = w4.heap.size) => by omega)
      obtain ⟨d5_0, d5_1, d5_2, d5_3, d5_4, d5_5, d5_6, d5_7, d5_8, d5_9, d5_10⟩ := cells11 B5
      have HBC := Lib.hid B5
      have HFC := Lib.hid FF5
      have HMK := Lib.hid mk
      have HNW := Lib.hid (iknew wo5 c rs (mk.rd.fr FF5 (fun _ _ x => x)) mk.pr (by have := mk.N8; omega))
      clear B5 FF5 mk
      go_wp2_with fail
      clear c5_0 z5_0 c5_1 z5_1 c5_2 z5_2 c5_3 z5_3 c5_4 z5_4 c5_5 z5_5 c5_6 z5_6 c5_7 z5_7 c5_8 z5_8 c5_9 z5_9 c5_10 z5_10 d5_0 d5_1 d5_2 d5_3 d5_4 d5_5 d5_6 d5_7 d5_8 d5_9 d5_10 Bz5 Fz5 Fo5 hwm5 hwo5
      refine HNW.out.mono ?_
      rintro e w5 ⟨ib, q, qs, tb, rfl, I5, F5, hup⟩
      have HLW : Hid (Lw W w4.heap.size c ib q qs tb rs ⟨[], List.replicate c.N false, 0, 0⟩ w5) := Lib.hid ⟨F5.at_ HBC.out (fun x => x), I5, ((HF1.out.step G_w4.out nop).step HFC.out nop).step F5 nop⟩
      have HLC : Hid (LwC W w4.heap.size c ib q qs tb) := Lib.hid ⟨fun h => by have := hup _ h; have := lt_of HBC.out; omega, fun k hk => by have := hup k hk; have := HFC.out.size; have := (HF1.out.step G_w4.out nop).size; omega, HMK.out.N8, HMK.out.t6, (HF1.out.step G_w4.out nop).size⟩
      clear I5 F5 hup
      generalize w4.heap.size = cb at HLW HLC ⊢
      have HL := Lib.hid hr.1
      have HRD := Lib.hid hr
      have HWA := Lib.hid hw
      clear hr hw
      clear HNW HM HSH HMK HFC HBC
      go_wp2_with fail
      go_loopw [7] (fun v wr => ∃ (j : Nat) (M : Md), v = .int .i64 j ∧ j ≤ n ∧ Lw W cb c ib q qs tb rs M wr ∧ 0 ≤ M.ref ∧ M.ref ≤ (j : Int)) (fun v _ => n - (intOf v).toNat)
      case atStart => exact ⟨0, _, rfl, Nat.zero_le _, HLW.out, by simp, by simp⟩
      case round =>
        clear HLW
        obtain ⟨j, M, rfl, hj, hL, hr0, hr1⟩ := hrel
        have HLj := Lib.hid hL
        clear hL
        by_cases hlt : j < n
        · have hlt' : (j : Int) < (n : Int) := by omega
          have rz := HRD.out.fr HLj.out.fr (fun _ _ x => x)
          obtain ⟨zb, zo, rfl, hzb⟩ := rz.plain (by omega)
          obtain ⟨y, hy⟩ : ∃ y, zs.getD j EAc.z = y := ⟨_, rfl⟩
          obtain ⟨y0, y1, y2, y3⟩ := y
          have hok := ac_ok HL.out HWA.out hlt
          rw [hy] at hok
          have hN8 := HLC.out.N8
          have hrm := rem_N (y := y1) (N := (c.N : Int)) hok.2.1 (by omega)
          have hb1 : 0 ≤ y1 := hok.2.1.1
          have hb2 : y1 ≤ 255 := hok.2.1.2
          obtain ⟨kk, hkk⟩ : ∃ kk, y1.tmod (c.N : Int) = kk := ⟨_, rfl⟩
          rw [hkk] at hrm
          have HRM := Lib.hid hrm
          have hn0 : ¬ ((c.N : Int) = 0) := by omega
          have hn0' : ((c.N : Int) == 0) = false := by simp; omega
          have hk100 : kk ≤ 100000 := Int.le_trans (Int.le_of_lt hrm.2) (by omega)
          have hy100 : y1 ≤ 100000 := by omega
          have hw1 : IntKind.i64.wrap y1 = y1 := i64_in hb1 hy100
          have hw2 : wrap64 y1 = y1 := w64_in hb1 hy100
          have hw3 : IntKind.i64.wrap kk = kk := i64_in hrm.1 hk100
          have hw4 : wrap64 kk = kk := w64_in hrm.1 hk100
          obtain ⟨l0, l1, l2, l3⟩ := rz.ac hlt hy
          obtain ⟨-, g1, -⟩ := cells11 HLj.out.cf
          have HYY := Lib.hid hy
          clear rz hy hok hrm hb1 hb2 hk100 hy100
          go_wp2_with fail
          go_quiet (fail)
          have HLq := Lib.hid (HLj.out.calm ((Fr.refl (fun _ => False) wr).drewN nq))
          generalize wr.drewN nq = wq at HLq ⊢
          clear hw1 hw2 hw3 hw4 hkk hn0 hn0' l0 l1 l2 l3 g1
          obtain ⟨-, -, -, l3⟩ := (HRD.out.fr HLq.out.fr (fun _ _ x => x)).ac hlt HYY.out
          obtain ⟨r, hr_⟩ : ∃ r, ofr c rs M (j : Int) kk y3 = r := ⟨_, rfl⟩
          have hrf := ofr_ref c rs M (j : Int) kk y3
          rw [hr_] at hrf
          obtain ⟨rb, rM⟩ := r
          have HRF : Hid (M.ref ≤ rM.ref ∧ rM.ref ≤ M.ref + 1) := Lib.hid hrf
          have HRR := Lib.hid hr_
          have HO1 := Lib.hid (ikoffer wq ib q qs tb c rs M HLq.out.ik (j : Int) kk y3 ⟨hr0, by omega⟩)
          rw [HRR.out] at HO1
          clear hrf hr_
          go_wp2_with fail
          refine HO1.out.mono ?_
          rintro e w6 ⟨rfl, I6, F6⟩
          have HL6 : Hid (Lw W cb c ib q qs tb rs rM w6) := Lib.hid (HLq.out.step HLC.out F6 I6)
          clear I6 F6 l3
          cases rb
          · go_wp2_with fail
            go_roundw
            case rel =>
              have hrf := HRF.out
              exact ⟨j + 1, rM, by go_num, by omega, HL6.out, by omega, by push_cast; omega⟩
            case measure => simp [intOf]; omega
          · have HAG := Lib.hid (ofr_again HLq.out.ik.tl HRR.out)
            go_wp2_with fail
            refine (ikwaiting w6 ib q qs tb c rs rM HL6.out.ik).mono ?_
            rintro e w7 ⟨rfl, F7⟩
            have HL7 := Lib.hid (HL6.out.calm F7)
            obtain ⟨a1, ha1⟩ : ∃ a : Nat, (bnd 1 rM.ms).length = a := ⟨_, rfl⟩
            obtain ⟨a2, ha2⟩ : ∃ a : Nat, (bnd 2 rM.ms).length = a := ⟨_, rfl⟩
            obtain ⟨a3, ha3⟩ : ∃ a : Nat, (bnd 3 rM.ms).length = a := ⟨_, rfl⟩
            rw [ha1, ha2, ha3]
            have HA := Lib.hid (And.intro ha1 (And.intro ha2 ha3))
            clear F7 ha1 ha2 ha3
            go_wp2_with fail
            refine (ikrefused w7 ib q qs tb c rs rM HL7.out.ik).mono ?_
            rintro e w8 ⟨rfl, F8⟩
            have HL8 := Lib.hid (HL7.out.calm F8)
            clear F8
            have Bz9 : (w8.alloc (.cells #[.int .i64 0, .int .i64 0, .int .i64 0] 32)).heap[w8.heap.size]? = some (.cells #[.int .i64 0, .int .i64 0, .int .i64 0] 32 (0, 0)) := alloc_is _ rfl
            have Fz9 := (Fr.refl (fun _ => False) w8).alloc (.cells #[.int .i64 0, .int .i64 0, .int .i64 0] 32)
            generalize hwm9 : w8.alloc (.cells #[.int .i64 0, .int .i64 0, .int .i64 0] 32) = wm9 at Bz9 Fz9
            obtain ⟨c9_0, c9_1, c9_2⟩ := cells3 Bz9
            have z9_0 := frozen_of Bz9 0
            have z9_1 := frozen_of Bz9 1
            have z9_2 := frozen_of Bz9 2
            have B9 := put3y (y0 := .int .i64 (a1 : Int)) (y1 := .int .i64 (a2 : Int)) (y2 := .int .i64 (a3 : Int)) Bz9
            have Fo9 := (Fr.refl (fun i => i = w8.heap.size) wm9).put3 (b := w8.heap.size) (fun _ => rfl) (.int .i64 (a1 : Int)) (.int .i64 (a2 : Int)) (.int .i64 (a3 : Int))
            generalize hwo9 : (((wm9.setCell ⟨w8.heap.size, 0, none⟩ (.int .i64 (a1 : Int))).setCell ⟨w8.heap.size, 1, none⟩ (.int .i64 (a2 : Int))).setCell ⟨w8.heap.size, 2, none⟩ (.int .i64 (a3 : Int))) = wo9 at B9 Fo9
            have FF9 := Fz9.trans Fo9 (fun i hi (h : i = w8.heap.size) => by omega)
            obtain ⟨d9_0, d9_1, d9_2⟩ := cells3 B9
            have HL9 := Lib.hid (HL8.out.calm FF9)
            have HB9 := Lib.hid B9
            have hni : ¬ inI ib q qs tb w8.heap.size := fun h => by have := HL8.out.ik.in_ h; omega
            have HNI := Lib.hid hni
            clear FF9 B9 hni
            go_upto_region 11 with (fail)
            clear c9_0 z9_0 c9_1 z9_1 c9_2 z9_2 d9_0 d9_1 d9_2 Bz9 Fz9 Fo9 hwm9 hwo9
            have HS : Hid (∀ w', Fr (inI ib q qs tb) wo9 w' → w'.cell? ⟨zb, zo + j * 4 + 3, none⟩ = some (.bool y3) ∧ w'.cell? ⟨w8.heap.size, 0, none⟩ = some (.int .i64 (a1 : Int)) ∧ w'.cell? ⟨w8.heap.size, 1, none⟩ = some (.int .i64 (a2 : Int)) ∧ w'.cell? ⟨w8.heap.size, 2, none⟩ = some (.int .i64 (a3 : Int))) := Lib.hid (fun w' h => by
              have h1 := (HRD.out.fr (HL9.out.fr.step h HLC.out.up) (fun _ _ x => x)).ac hlt HYY.out
              have h2 := cells3 (h.at_ HB9.out HNI.out)
              exact ⟨h1.2.2.2, h2.1, h2.2.1, h2.2.2⟩)
            have HOF : Hid (∀ w', Fr (fun _ => False) wo9 w' → Calls Try.prog 15 #[.pointer (some ⟨ib, 0, none⟩), .int .i64 (j : Int), .int .i64 kk, .bool y3] w' fun e w'' => e = .returned (.bool true) ∧ Ik w'' ib q qs tb c rs rM ∧ Fr (inI ib q qs tb) wo9 w'') := Lib.hid (fun w' h => by
              have := ikoffer w' ib q qs tb c rs rM (HL9.out.ik.calm h) (j : Int) kk y3 ⟨by have := HRF.out; omega, by have := HRF.out; omega⟩
              rw [HAG.out] at this
              exact this.mono fun e w'' ⟨h1, h2, h3⟩ => ⟨h1, h2, (h.mono (S' := inI ib q qs tb) (fun _ _ x => x.elim)).trans h3 (fun _ _ x => x)⟩)
            have HWT : Hid (∀ w', Ik w' ib q qs tb c rs rM → Fr (inI ib q qs tb) wo9 w' → Calls Try.prog 17 #[.pointer (some ⟨ib, 0, none⟩)] w' fun e w'' => e = .returned (.agg #[.int .i64 (a1 : Int), .int .i64 (a2 : Int), .int .i64 (a3 : Int)]) ∧ Ik w'' ib q qs tb c rs rM ∧ Fr (inI ib q qs tb) wo9 w'') := Lib.hid (fun w' hi h => by
              have := ikwaiting w' ib q qs tb c rs rM hi
              rw [HA.out.1, HA.out.2.1, HA.out.2.2] at this
              exact this.mono fun e w'' ⟨h1, h2⟩ => ⟨h1, hi.calm h2, h.trans h2 (fun _ _ x => x.elim)⟩)
            have HRE : Hid (∀ w', Ik w' ib q qs tb c rs rM → Fr (inI ib q qs tb) wo9 w' → Calls Try.prog 16 #[.pointer (some ⟨ib, 0, none⟩)] w' fun e w'' => e = .returned (.int .i64 rM.ref) ∧ Ik w'' ib q qs tb c rs rM ∧ Fr (inI ib q qs tb) wo9 w'') := Lib.hid (fun w' hi h => (ikrefused w' ib q qs tb c rs rM hi).mono fun e w'' ⟨h1, h2⟩ => ⟨h1, hi.calm h2, h.trans h2 (fun _ _ x => x.elim)⟩)
            have hF0 : Fr (fun _ => False) wo9 wo9.drew := (Fr.refl _ _).drew
            clear HO1 HAG
            go_region_held3 (fun w' => w'.cell? ⟨zb, zo + j * 4 + 3, none⟩ = some (.bool y3) ∧ w'.cell? ⟨w8.heap.size, 0, none⟩ = some (.int .i64 (a1 : Int)) ∧ w'.cell? ⟨w8.heap.size, 1, none⟩ = some (.int .i64 (a2 : Int)) ∧ w'.cell? ⟨w8.heap.size, 2, none⟩ = some (.int .i64 (a3 : Int)))
              (first | exact HS.out _ (by assumption) | exact HS.out _ (Fr.mono (S := fun _ => False) (by assumption) (fun _ _ x => x.elim)))
              (first
                | (go_at_call 15; refine (HOF.out _ (by assumption)).mono ?_; rintro e wA ⟨rfl, IA, FA⟩)
                | (go_at_call 17; refine (HWT.out _ (by assumption) (by assumption)).mono ?_; rintro e wB ⟨rfl, IB, FB⟩)
                | (go_at_call 16; refine (HRE.out _ (by assumption) (by assumption)).mono ?_; rintro e wC ⟨rfl, IC, FC⟩))
            have HL10 := Lib.hid (HL9.out.step HLC.out FC IC)
            clear FC IC hF0 HS HOF HWT HRE
            go_wp2_with fail
            go_roundw
            case rel =>
              have hrf := HRF.out
              exact ⟨j + 1, rM, by go_num, by omega, HL10.out, by omega, by push_cast; omega⟩
            case measure => simp [intOf]; omega
        · have hlt' : ¬ (j : Int) < (n : Int) := by omega
          obtain ⟨-, g1, -⟩ := cells11 HLj.out.cf
          have HE1 : Hid (ofr c rs M 1 (-1) true = (true, M)) := Lib.hid (by unfold ofr; rw [if_pos (.inl (by omega))])
          have HE2 : Hid (ofr c rs M 1 (c.N : Int) true = (true, M)) := Lib.hid (by unfold ofr; rw [if_pos (.inr (.inl (Int.le_refl _)))])
          have HO1 := Lib.hid (ikoffer wr ib q qs tb c rs M HLj.out.ik 1 (-1) true ⟨hr0, by omega⟩)
          rw [HE1.out] at HO1
          go_wp2_with fail
          refine HO1.out.mono ?_
          rintro e w6 ⟨rfl, I6, F6⟩
          have HL6 : Hid (Lw W cb c ib q qs tb rs M w6) := Lib.hid (HLj.out.step HLC.out F6 I6)
          have HO2 := Lib.hid (ikoffer w6 ib q qs tb c rs M HL6.out.ik 1 (c.N : Int) true ⟨hr0, by omega⟩)
          rw [HE2.out] at HO2
          clear I6 F6 g1
          obtain ⟨-, g1, -⟩ := cells11 HL6.out.cf
          go_wp2_with fail
          refine HO2.out.mono ?_
          rintro e w7 ⟨rfl, I7, F7⟩
          have HL7 : Hid (Lw W cb c ib q qs tb rs M w7) := Lib.hid (HL6.out.step HLC.out F7 I7)
          clear I7 F7
          go_wp2_with fail
          go_ret
          exact ⟨rfl, HL7.out.fr.below⟩
  · have hlim' : (60 : Int) < (n : Int) := by omega
    go_enter Try.func5, Try.ntmps5
    go_wp2_with fail
    refine (refuses_any _).mono ?_
    rintro e w2 ⟨rfl, F_w2⟩
    have G_w2 := Lib.hid (F_w2)
    clear F_w2
    clear hw1
    obtain ⟨q0, q1, q2, q3, q4, q5, q6, q7⟩ := cells8 (G_w2.out.at_ HBD.out (fun x => x))
    have HSH := Lib.hid (short_any w2 A0 A1 n0 k0 n1 k1 gb gd gp go_ gk gl ls (HD.out.rd.fr G_w2.out (fun _ _ x => x)))
    go_wp2_with fail
    refine HSH.out.mono ?_
    rintro e w3 ⟨b, rfl, F3⟩
    have G_w3 := Lib.hid (G_w2.out.step F3 nop)
    clear F3 q0 q1 q2 q3 q4 q5 q6 q7
    cases b
    · go_wp2_with fail
      refine (refuses_any _).mono ?_
      rintro e w4 ⟨rfl, F_w4⟩
      have G_w4 := Lib.hid (G_w3.out.step F_w4 nop)
      clear F_w4
      go_wp2_with fail
      go_ret
      exact ⟨rfl, (HF1.out.step G_w4.out nop).below⟩
    · go_wp2_with fail
      refine (refuses_any _).mono ?_
      rintro e w4 ⟨rfl, F_w4⟩
      have G_w4 := Lib.hid (G_w3.out.step F_w4 nop)
      clear F_w4
      go_wp2_with fail
      go_ret
      exact ⟨rfl, (HF1.out.step G_w4.out nop).below⟩

end Go.Proofs.Ytahddolplklopaa
