/- Iw. -/
import Derived.Test.YtahddolplklopaaChecked
import Derived.WalkKit
import Derived.Laws.IdiomCopy
import Derived.Deep.QuietTactic
import Derived.BigQuiet
import Derived.Lib.Hide
import Derived.OpenShut
import Derived.StillTailTactics
import Derived.Deep.RegionWith
import Derived.Deep.RegionLaw
import Derived.Deep.Slices
import Derived.Deep.RegionHeld3
import Derived.OwnWalk
import Derived.Deep.DeepCutAuto
import Derived.Deep.CutRange
import Derived.Test.YtahddolplklopaaBase
import Derived.Test.YtahddolplklopaaCalm
import Derived.Test.YtahddolplklopaaCalmT
import Derived.Test.YtahddolplklopaaCel
import Derived.Test.YtahddolplklopaaApp
import Derived.Test.YtahddolplklopaaRE
import Derived.Test.YtahddolplklopaaREB
import Derived.Test.YtahddolplklopaaREC
import Derived.Test.YtahddolplklopaaREA
import Derived.Test.YtahddolplklopaaBq
import Derived.Test.YtahddolplklopaaBp
import Derived.Test.YtahddolplklopaaBx
import Derived.Test.YtahddolplklopaaBr
import Derived.Test.YtahddolplklopaaBk0
import Derived.Test.YtahddolplklopaaBt
import Derived.Test.YtahddolplklopaaBk
import Derived.Test.YtahddolplklopaaBu
import Derived.Test.YtahddolplklopaaBv
import Derived.Maps.AppendAt
import Derived.Test.YtahddolplklopaaMkD
import Derived.Test.YtahddolplklopaaMkE
import Derived.Test.YtahddolplklopaaClk
import Derived.Test.YtahddolplklopaaIk
import Derived.Test.YtahddolplklopaaMkM
import Derived.Test.YtahddolplklopaaIl
import Derived.BigRegion
import Derived.Deep.CutBlock
import Derived.Test.YtahddolplklopaaEqa
import Derived.Test.YtahddolplklopaaIlw
import Derived.Test.YtahddolplklopaaIwp
namespace Go.Proofs.Ytahddolplklopaa
open Go.RowKit
set_option linter.unusedVariables false
set_option linter.unusedSimpArgs false


def EW : El Int := ⟨fun y => [.int .u16 y], 1, fun _ => rfl, by omega, 0⟩
theorem Reads.u16 {w : World} {b o n : Nat} {xs : List Int} (h : Reads EW w (some ⟨b, o, none⟩) n xs) {k : Nat} (hk : k < n) {y : Int} (hy : xs.getD k 0 = y) : w.cell? ⟨b, o + k, none⟩ = some (.int .u16 y) := by
  have := h.c1 rfl hk; rw [show xs.getD k EW.z = y from hy] at this; exact this
theorem since_cell {w : World} {sb : Nat} {l : List Int} (h : w.heap[sb]? = some (.cells (EI.flat l) 3 (0, 0))) {k : Nat} (hk : k < l.length) {y : Int} (hy : l.getD k 0 = y) : w.cell? ⟨sb, k, none⟩ = some (.int .i64 y) := by
  have := (Reads.ofB EI h).i64 hk hy
  rwa [Nat.zero_add] at this
theorem flat_set1 (l : List Int) (k : Nat) (y : Int) : (EI.flat l).setIfInBounds k (.int .i64 y) = EI.flat (l.set k y) := by
  have e : ∀ l : List Int, l.flatMap EI.enc = l.map (fun y => Value.int .i64 y) := fun l => by
    induction l with
    | nil => rfl
    | cons a l ih => show [Value.int .i64 a] ++ l.flatMap EI.enc = _; rw [ih]; rfl
  unfold El.flat
  rw [e, e, List.map_set]; simp
theorem since_set {w : World} {sb : Nat} {l : List Int} (h : w.heap[sb]? = some (.cells (EI.flat l) 3 (0, 0))) (k : Nat) (y : Int) : (w.setCell ⟨sb, k, none⟩ (.int .i64 y)).heap[sb]? = some (.cells (EI.flat (l.set k y)) 3 (0, 0)) := by
  have := set_at h k (.int .i64 y)
  rwa [flat_set1] at this
theorem told_same {l : List Bool} {k : Nat} {b : Bool} (hb : l.getD k false = b) : l.set k b = l := by
  apply List.ext_getElem?
  intro i
  rw [List.getElem?_set]
  by_cases e : k = i
  · subst e
    by_cases h : k < l.length
    · rw [if_pos rfl, if_pos h, List.getElem?_eq_getElem h]
      rw [List.getD_eq_getElem?_getD, List.getElem?_eq_getElem h] at hb
      exact congrArg some hb.symm
    · rw [if_pos rfl, if_neg h, List.getElem?_eq_none (by omega)]
  · rw [if_neg e]
structure WtS (W w4 : World) (cb : Nat) (c : Cf) (ib q : Nat) (qs : Nat → Nat × Nat) (tb : Nat) (rs : List Rl) (td st : Nat) (M : Md) (since : List Int) (w : World) : Prop where
  lw : Lw W cb c ib q qs tb rs M w
  tt : w.heap[td]? = some (.cells (EB.flat M.told) 4 (0, 0))
  ss : w.heap[st]? = some (.cells (EI.flat since) 3 (0, 0))
  fr : Fr (fun _ => False) w4 w
theorem WtS.calm {W w4 w w' : World} {cb : Nat} {c : Cf} {ib q tb : Nat} {qs : Nat → Nat × Nat} {rs : List Rl} {td st : Nat} {M : Md} {since : List Int} (h : WtS W w4 cb c ib q qs tb rs td st M since w) (hf : Fr (fun _ => False) w w') : WtS W w4 cb c ib q qs tb rs td st M since w' :=
  ⟨h.lw.calm hf, hf.at_ h.tt (fun x => x), hf.at_ h.ss (fun x => x), h.fr.step hf nop⟩
set_option maxRecDepth 100000 in
set_option maxHeartbeats 40000000 in
theorem IntakeWaits_walk (A0 A1 : Option Addr) (n0 k0 n1 k1 : Nat) (gb gd gp go_ : Int) (gk : Bool) (gl : Int) (ls : List Ln) (ss : List (List Int)) (sl : List Int) (A : Option Addr) (n cap : Nat) (zs : List Int) (W : World) (hd : Dft W A0 n0 ls ss A1 n1 sl) (hb : byte gb ∧ byte gd ∧ byte gp ∧ byte go_ ∧ byte gl) (hr : Reads EW W A n zs) (hw : ∀ y, y ∈ zs → (Lit.int .u16 y).wf = true) (hcap : n ≤ cap ∧ cap ≤ maxLen) :
    Calls Try.prog 6 #[.agg #[.slice A0 n0 k0, .slice A1 n1 k1, .int .u8 gb, .int .u8 gd, .int .u8 gp, .int .u8 go_, .bool gk, .int .u8 gl], .slice A n cap] W fun e w' => e = .returned (.bool true) ∧ Below W.heap.size W w' := by
  have BD := alloc_is (w := W) (n := W.heap.size) (.cells #[.slice A0 n0 k0, .slice A1 n1 k1, .int .u8 gb, .int .u8 gd, .int .u8 gp, .int .u8 go_, .bool gk, .int .u8 gl] 25) rfl
  have F1 := (Fr.refl (fun _ => False) W).alloc (.cells #[.slice A0 n0 k0, .slice A1 n1 k1, .int .u8 gb, .int .u8 gd, .int .u8 gp, .int .u8 go_, .bool gk, .int .u8 gl] 25)
  generalize hw1 : W.alloc (.cells #[.slice A0 n0 k0, .slice A1 n1 k1, .int .u8 gb, .int .u8 gd, .int .u8 gp, .int .u8 go_, .bool gk, .int .u8 gl] 25) = w1 at BD F1
  have HBD := Lib.hid BD
  have HF1 := Lib.hid F1
  have HD := Lib.hid (hd.calm F1)
  have HBY := Lib.hid hb
  clear BD F1 hd hb
  by_cases hlim : n ≤ 200
  · have hlim' : ¬ (200 : Int) < (n : Int) := by omega
    go_enter Try.func6, Try.ntmps6
    go_wp2_with fail
    refine (refuses_any _).mono ?_
    rintro e w2 ⟨rfl, F_w2⟩
    have G_w2 := Lib.hid (F_w2)
    clear F_w2
    clear hw1
    obtain ⟨q0, q1, q2, q3, q4, q5, q6, q7⟩ := cells8 (G_w2.out.at_ HBD.out (fun x => x))
    have HSH := Lib.hid (short_any w2 A0 A1 n0 k0 n1 k1 gb gd gp go_ gk gl ls (HD.out.rd.fr G_w2.out (fun _ _ x => x)))
    go_wp2_with fail
    refine HSH.out.mono ?_
    rintro e w3 ⟨b, rfl, F3⟩
    have G_w3 := Lib.hid (G_w2.out.step F3 nop)
    clear F3 q0 q1 q2 q3 q4 q5 q6 q7
    cases b
    · go_wp2_with fail
      refine (refuses_any _).mono ?_
      rintro e w4 ⟨rfl, F_w4⟩
      have G_w4 := Lib.hid (G_w3.out.step F_w4 nop)
      clear F_w4
      go_wp2_with fail
      go_ret
      exact ⟨rfl, (HF1.out.step G_w4.out nop).below⟩
    · obtain ⟨q0, q1, q2, q3, q4, q5, q6, q7⟩ := cells8 (G_w3.out.at_ HBD.out (fun x => x))
      have HM := Lib.hid (Make_c w3 A0 A1 n0 k0 n1 k1 gb gd gp go_ gk gl ls ss sl (HD.out.calm G_w3.out) HBY.out)
      go_wp2_with fail
      refine HM.out.mono ?_
      rintro e w4 ⟨c, sb, rs, vs, tbl, rfl, mk⟩
      clear q0 q1 q2 q3 q4 q5 q6 q7
      have G_w4 := Lib.hid (G_w3.out.step mk.fr nop)
      have Bz5 : (w4.alloc (.cells #[.slice none 0 0, .slice none 0 0, .slice none 0 0, .int .i64 0, .int .i64 0, .int .i64 0, .int .i64 0, .int .i64 0, .int .i64 0, .bool false, .int .i64 0] 34)).heap[w4.heap.size]? = some (.cells #[.slice none 0 0, .slice none 0 0, .slice none 0 0, .int .i64 0, .int .i64 0, .int .i64 0, .int .i64 0, .int .i64 0, .int .i64 0, .bool false, .int .i64 0] 34 (0, 0)) := alloc_is _ rfl
      have Fz5 := (Fr.refl (fun _ => False) w4).alloc (.cells #[.slice none 0 0, .slice none 0 0, .slice none 0 0, .int .i64 0, .int .i64 0, .int .i64 0, .int .i64 0, .int .i64 0, .int .i64 0, .bool false, .int .i64 0] 34)
      generalize hwm5 : w4.alloc (.cells #[.slice none 0 0, .slice none 0 0, .slice none 0 0, .int .i64 0, .int .i64 0, .int .i64 0, .int .i64 0, .int .i64 0, .int .i64 0, .bool false, .int .i64 0] 34) = wm5 at Bz5 Fz5
      obtain ⟨c5_0, c5_1, c5_2, c5_3, c5_4, c5_5, c5_6, c5_7, c5_8, c5_9, c5_10⟩ := cells11 Bz5
      have z5_0 := frozen_of Bz5 0
      have z5_1 := frozen_of Bz5 1
      have z5_2 := frozen_of Bz5 2
      have z5_3 := frozen_of Bz5 3
      have z5_4 := frozen_of Bz5 4
      have z5_5 := frozen_of Bz5 5
      have z5_6 := frozen_of Bz5 6
      have z5_7 := frozen_of Bz5 7
      have z5_8 := frozen_of Bz5 8
      have z5_9 := frozen_of Bz5 9
      have z5_10 := frozen_of Bz5 10
      have B5 := put11y (y0 := .slice c.s1 c.s2 c.s3) (y1 := .slice c.rv c.N c.rk) (y2 := .slice c.tv c.t c.tk) (y3 := .int .i64 c.b0) (y4 := .int .i64 c.b1) (y5 := .int .i64 c.b2) (y6 := .int .i64 c.dr) (y7 := .int .i64 c.pa) (y8 := .int .i64 c.of_) (y9 := .bool c.br) (y10 := .int .i64 c.lg) Bz5
      have Fo5 := (Fr.refl (fun i => i = w4.heap.size) wm5).put11 (b := w4.heap.size) (fun _ => rfl) (.slice c.s1 c.s2 c.s3) (.slice c.rv c.N c.rk) (.slice c.tv c.t c.tk) (.int .i64 c.b0) (.int .i64 c.b1) (.int .i64 c.b2) (.int .i64 c.dr) (.int .i64 c.pa) (.int .i64 c.of_) (.bool c.br) (.int .i64 c.lg)
      generalize hwo5 : (((((((((((wm5.setCell ⟨w4.heap.size, 0, none⟩ (.slice c.s1 c.s2 c.s3)).setCell ⟨w4.heap.size, 1, none⟩ (.slice c.rv c.N c.rk)).setCell ⟨w4.heap.size, 2, none⟩ (.slice c.tv c.t c.tk)).setCell ⟨w4.heap.size, 3, none⟩ (.int .i64 c.b0)).setCell ⟨w4.heap.size, 4, none⟩ (.int .i64 c.b1)).setCell ⟨w4.heap.size, 5, none⟩ (.int .i64 c.b2)).setCell ⟨w4.heap.size, 6, none⟩ (.int .i64 c.dr)).setCell ⟨w4.heap.size, 7, none⟩ (.int .i64 c.pa)).setCell ⟨w4.heap.size, 8, none⟩ (.int .i64 c.of_)).setCell ⟨w4.heap.size, 9, none⟩ (.bool c.br)).setCell ⟨w4.heap.size, 10, none⟩ (.int .i64 c.lg)) = wo5 at B5 Fo5
      have FF5 := Fz5.trans Fo5 (fun i hi (h : i = w4.heap.size) => by omega)
      obtain ⟨d5_0, d5_1, d5_2, d5_3, d5_4, d5_5, d5_6, d5_7, d5_8, d5_9, d5_10⟩ := cells11 B5
      have HBC := Lib.hid B5
      have HFC := Lib.hid FF5
      have HMK := Lib.hid mk
      have HNW := Lib.hid (iknew wo5 c rs (mk.rd.fr FF5 (fun _ _ x => x)) mk.pr (by have := mk.N8; omega))
      clear B5 FF5 mk
      go_wp2_with fail
      clear c5_0 z5_0 c5_1 z5_1 c5_2 z5_2 c5_3 z5_3 c5_4 z5_4 c5_5 z5_5 c5_6 z5_6 c5_7 z5_7 c5_8 z5_8 c5_9 z5_9 c5_10 z5_10 d5_0 d5_1 d5_2 d5_3 d5_4 d5_5 d5_6 d5_7 d5_8 d5_9 d5_10 Bz5 Fz5 Fo5 hwm5 hwo5
      refine HNW.out.mono ?_
      rintro e w5 ⟨ib, q, qs, tb, rfl, I5, F5, hup⟩
      have HLW : Hid (Lw W w4.heap.size c ib q qs tb rs ⟨[], List.replicate c.N false, 0, 0⟩ w5) := Lib.hid ⟨F5.at_ HBC.out (fun x => x), I5, ((HF1.out.step G_w4.out nop).step HFC.out nop).step F5 nop⟩
      have HLC : Hid (LwC W w4.heap.size c ib q qs tb) := Lib.hid ⟨fun h => by have := hup _ h; have := lt_of HBC.out; omega, fun k hk => by have := hup k hk; have := HFC.out.size; have := (HF1.out.step G_w4.out nop).size; omega, HMK.out.N8, HMK.out.t6, (HF1.out.step G_w4.out nop).size⟩
      have HUP4 : Hid (∀ k, inI ib q qs tb k → w4.heap.size ≤ k) := Lib.hid (fun k hk => by have := hup k hk; have := HFC.out.size; omega)
      have HF45 : Hid (Fr (fun _ => False) w4 w5) := Lib.hid (HFC.out.step F5 nop)
      clear I5 F5 hup
      generalize w4.heap.size = cb at HLW HLC ⊢
      have HL := Lib.hid hr.1
      have HRD := Lib.hid hr
      have HWA := Lib.hid hw
      clear hr hw
      have HDR : Hid (1 ≤ c.dr ∧ c.dr ≤ 1000 ∧ ((entries tbl / c.t + 1 : Nat) : Int) ≤ c.dr) := Lib.hid (by
        rw [HMK.out.dr]; unfold mkDr
        have h1 : entries tbl / c.t ≤ 8 := by
          have h2 := entries_le tbl (M := 8) (fun i hi => Nat.le_trans (pig _ _ (HMK.out.md.htb.ok i (by have := HMK.out.md.htb.tl; omega))) (nRul_rng n0).2) tbl.length (Nat.le_refl _)
          rw [List.take_of_length_le (Nat.le_refl _), HMK.out.md.htb.tl] at h2
          exact Nat.div_le_of_le_mul (by rw [Nat.mul_comm]; exact h2)
        have h3 := HBY.out.2.1
        unfold byte at h3
        generalize entries tbl / c.t = EN at h1 ⊢
        omega)
      obtain ⟨dr, hdr⟩ : ∃ dr : Nat, c.dr = (dr : Int) := ⟨c.dr.toNat, by have := HDR.out.1; omega⟩
      have HDRN := Lib.hid hdr
      have HENO : Hid (win (slen tbl c.t) 0 c.t < c.t * dr) := Lib.hid (drain_enough HMK.out.md.htb.tl HMK.out.t6.1 (by have h1 := HDR.out.2.2; rw [hdr] at h1; exact Int.ofNat_le.1 h1))
      clear hdr
      have HTB : Hid (∀ w', Fr (fun _ => False) w4 w' → Tbl w' c.tv c.t vs tbl) := Lib.hid (fun w' h => HMK.out.md.htb.tbl.calm h)
      have HROK : Hid (∀ r, r < c.t → RowOk c.N (tbl.getD r []) ∧ (tbl.getD r []).length ≤ 8) := Lib.hid (fun r hr => by
        have h1 := HMK.out.md.htb.ok r hr
        rw [← HMK.out.cf.N] at h1
        exact ⟨h1, Nat.le_trans (pig _ _ h1) HMK.out.N8.2⟩)
      obtain ⟨i0, hi, hz0, hz1, hz2⟩ := info_parts (show (Try.prog.info? 4).map (fun i => (i.zero, i.size, i.bytes)) = some (some (.bool false), 1, 1) by kernel_rfl)
      have hmk : ∀ W, (Instr.makeSlice 52 (.int .i64 (c.N : Int)) (.int .i64 (c.N : Int))).run Try.prog W = .ok (.slice (some ⟨W.heap.size, 0, none⟩) c.N c.N) (W.alloc (.cells (EB.flat (List.replicate c.N false)) 4)) := by
        intro W
        have := HLC.out.N8
        have := run_make (P := Try.prog) W 52 4 i0 _ Try.underlying52 hi hz0 .i64 .i64 (c.N : Int) (c.N : Int) (by omega) (by omega) (by rw [hz2]; omega) (by omega)
        rw [this, hz1]
        simp only [Int.toNat_natCast]
        rw [show List.replicate c.N false = List.replicate c.N EB.z from rfl, ← made_flat EB c.N]; rfl
      clear hi hz0 hz1 hz2
      obtain ⟨i1, hi, hz0, hz1, hz2⟩ := info_parts (show (Try.prog.info? 3).map (fun i => (i.zero, i.size, i.bytes)) = some (some (.int .i64 0), 1, 8) by kernel_rfl)
      have hmk2 : ∀ W, (Instr.makeSlice 39 (.int .i64 (c.N : Int)) (.int .i64 (c.N : Int))).run Try.prog W = .ok (.slice (some ⟨W.heap.size, 0, none⟩) c.N c.N) (W.alloc (.cells (EI.flat (List.replicate c.N 0)) 3)) := by
        intro W
        have := HLC.out.N8
        have := run_make (P := Try.prog) W 39 3 i1 _ Try.underlying39 hi hz0 .i64 .i64 (c.N : Int) (c.N : Int) (by omega) (by omega) (by rw [hz2]; omega) (by omega)
        rw [this, hz1]
        simp only [Int.toNat_natCast]
        rw [show List.replicate c.N (0 : Int) = List.replicate c.N EI.z from rfl, ← made_flat EI c.N]; rfl
      clear hi hz0 hz1 hz2
      have HRVW : Hid (∀ ad, c.rv = some ad → 0 < c.N → ad.block < w5.heap.size) := Lib.hid (fun ad ha h0 => rd_lt HLW.out.ik.rd ha h0)
      have HT6 := Lib.hid HMK.out.t6
      clear HNW HM HSH HMK HFC HBC
      have BT := alloc_at (alloc_is (w := w5) (n := w5.heap.size) (.cells (EB.flat (List.replicate c.N false)) 4) rfl) (.cells (EI.flat (List.replicate c.N 0)) 3)
      have BL := alloc_is (w := w5.alloc (.cells (EB.flat (List.replicate c.N false)) 4)) (n := w5.heap.size + 1) (.cells (EI.flat (List.replicate c.N 0)) 3) (by simp)
      have FX := ((Fr.refl (fun _ => False) w5).alloc (.cells (EB.flat (List.replicate c.N false)) 4)).alloc (.cells (EI.flat (List.replicate c.N 0)) 3)
      have ccs := (cells11 HLW.out.cf).2.1
      have ccs' := (cells11 (alloc_at HLW.out.cf (.cells (EB.flat (List.replicate c.N false)) 4))).2.1
      have ccs2 := (cells11 (alloc_at (alloc_at HLW.out.cf (.cells (EB.flat (List.replicate c.N false)) 4)) (.cells (EI.flat (List.replicate c.N 0)) 3))).2.1
      have ccs3 := (cells11 (alloc_at (alloc_at HLW.out.cf (.cells (EB.flat (List.replicate c.N false)) 4)) (.cells (EI.flat (List.replicate c.N 0)) 3))).2.2.1
      generalize hw6 : (w5.alloc (.cells (EB.flat (List.replicate c.N false)) 4)).alloc (.cells (EI.flat (List.replicate c.N 0)) 3) = w6 at BT BL FX ccs2 ccs3
      have HTS : Hid (WtS W w4 cb c ib q qs tb rs w5.heap.size (w5.heap.size + 1) ⟨[], List.replicate c.N false, 0, 0⟩ (List.replicate c.N 0) w6) := Lib.hid ⟨HLW.out.calm FX, BT, BL, HF45.out.step FX nop⟩
      have HTC : Hid (TdC W cb ib q qs tb w5.heap.size (w5.heap.size + 1)) := Lib.hid (by
        have h1 := lt_of HLW.out.cf
        have h2 := HLW.out.fr.size
        exact ⟨fun h => by have := HLW.out.ik.in_ h; omega, fun h => by have := HLW.out.ik.in_ h; omega, by omega, by omega, by omega, by omega, by omega⟩)
      have HT4 : Hid (w4.heap.size ≤ w5.heap.size ∧ w4.heap.size ≤ w5.heap.size + 1 ∧ w5.heap.size < w5.heap.size + 1) := Lib.hid ⟨HF45.out.size, by have := HF45.out.size; omega, by omega⟩
      have hN8 := HLC.out.N8
      have hT6 := HT6.out
      obtain ⟨wt, hwt⟩ : ∃ wt : Nat, (c.N + 1) * c.t = wt := ⟨_, rfl⟩
      have hwt2 : wt ≤ 54 := by rw [← hwt]; exact Nat.mul_le_mul (by omega : c.N + 1 ≤ 9) hT6.2
      have hwt3 : ((c.N : Int) + 1) * (c.t : Int) = (wt : Int) := by rw [← hwt]; push_cast; rfl
      have HWT := Lib.hid hwt
      have HL10 : Hid (∀ (M : Md) (w : World), Lw W cb c ib q qs tb rs M w → M.ms.length ≤ 10000) := Lib.hid (fun M w h => by
        have h1 := h.room
        have h2 := tot_bnd M.ms h.ik.gq.1
        unfold tot at h2
        have h3 : (bnd 1 M.ms).length + (bnd 2 M.ms).length + (bnd 3 M.ms).length = M.ms.length := h2
        unfold RE.room at h1
        omega)
      clear BT BL FX HLW hwt
      go_upto_region 8 with (fail)
      clear hw6 hmk hmk2 ccs ccs' ccs2 ccs3 hwt3
      generalize w5.heap.size + 1 = st at HTS HTC HT4 ⊢
      generalize w5.heap.size = td at HTS HTC HT4 HRVW ⊢
      go_upto_block 0 with (fail)
      go_cut [10] (fun s10 wx => ∃ (M : Md) (since : List Int) (bs : Nat → Nat), WtS W w4 cb c ib q qs tb rs td st M since wx ∧ Hist c.N dr (slen tbl c.t) bs (n + wt) ∧ Sg bs (n + wt) (n + wt) n since ∧ since.length = c.N)
      case first =>
        go_wp2_with fail
        go_loopw [10] (fun v wr => ∃ (m : Nat) (M : Md) (since : List Int) (bs : Nat → Nat), v = .int .i64 ((m : Int) + 1) ∧ m ≤ n + wt ∧ WtS W w4 cb c ib q qs tb rs td st M since wr ∧ Hist c.N dr (slen tbl c.t) bs m ∧ bs m = M.ms.length ∧ Wi c rs M.ms since [] ∧ Sg bs m m n since ∧ 0 ≤ M.ref ∧ M.ref ≤ 8 * (m : Int)) (fun v _ => 300 - (intOf v).toNat)
        case atStart => exact ⟨0, _, _, fun _ => 0, rfl, Nat.zero_le _, HTS.out, ⟨fun t ht => Nat.zero_le _, fun t ht => absurd ht (Nat.not_lt_zero _)⟩, rfl, ⟨by simp, fun y hy => (by cases hy), List.nodup_nil, fun k hk => ⟨fun h => absurd (by simp [List.getD_eq_getElem?_getD, List.getElem?_replicate, hk]) h, fun h => by simp [rls] at h⟩, fun r hr => by cases hr⟩, fun k hk => absurd (by simp [List.getD_eq_getElem?_getD, List.getElem?_replicate]; split <;> rfl) hk, by simp, by simp⟩
        case round =>
          clear HTS
          obtain ⟨m, M, since, bs, rfl, hm, hS, hH, hbm, hW, hG, hr0, hr1⟩ := hrel
          have HS := Lib.hid hS
          have HH := Lib.hid hH
          have HBM := Lib.hid hbm
          have HW := Lib.hid hW
          have HG := Lib.hid hG
          have HRF0 : Hid (0 ≤ M.ref ∧ M.ref ≤ 8 * (m : Int)) := Lib.hid ⟨hr0, hr1⟩
          clear hS hH hbm hW hG hr0 hr1
          by_cases hlt : m < n + wt
          · have hlt' : (m : Int) + 1 ≤ (n : Int) + (wt : Int) := by omega
            have rdt := (HTB.out _ HS.out.fr).rd
            obtain ⟨gb_, go2, htv, hgb⟩ := rdt.plain (by omega)
            obtain ⟨-, -, g2, -⟩ := cells11 HS.out.lw.cf
            rw [htv] at rdt g2
            have HTV := Lib.hid htv
            obtain ⟨r, hrr⟩ : ∃ r, m % c.t = r := ⟨_, rfl⟩
            have hrt : r < c.t := by rw [← hrr]; exact Nat.mod_lt _ (by omega)
            have HRR := Lib.hid hrr
            have hkk : (m : Int).tmod (c.t : Int) = (r : Int) := by rw [← hrr]; rfl
            obtain ⟨rw_, hrw⟩ : ∃ y, vs.getD r ETr.z = y := ⟨_, rfl⟩
            obtain ⟨rA, rn, rc⟩ := rw_
            have l0 := rdt.tr hrt hrw
            have hn0 : ¬ ((c.t : Int) = 0) := by omega
            have hn0' : ((c.t : Int) == 0) = false := by simp; omega
            have hn2 : ¬ c.t = 0 := by omega
            have hr1 : (r : Int) < (c.t : Int) := by omega
            have hr2 : (0 : Int) ≤ (r : Int) := by omega
            have hw1 : IntKind.i64.wrap (m : Int) = (m : Int) := i64_in (by omega) (by omega)
            have hw2 : wrap64 (m : Int) = (m : Int) := w64_in (by omega) (by omega)
            have hw3 : IntKind.i64.wrap (r : Int) = (r : Int) := i64_in (by omega) (by omega)
            have hw4 : wrap64 (r : Int) = (r : Int) := w64_in (by omega) (by omega)
            obtain ⟨l, hl⟩ : ∃ l, tbl.getD r [] = l := ⟨_, rfl⟩
            have hrow : ∀ w', Fr (fun _ => False) w4 w' → Reads EI w' rA rn l := fun w' h => by
              have := (HTB.out w' h).row r hrt
              rw [hrw, hl] at this; exact this
            have HROW := Lib.hid hrow
            have hrok := HROK.out r hrt
            rw [hl] at hrok
            have HLK := Lib.hid hrok
            have HLN : Hid (l.length = rn) := Lib.hid (hrow w4 (Fr.refl _ _)).1
            have HSL : Hid (slen tbl c.t m = rn) := Lib.hid (by unfold slen; rw [HRR.out, hl]; exact HLN.out)
            have hrn8 : rn ≤ 8 := by have := hrok.2; have := HLN.out; omega
            clear hrr hrow hrok hl rdt htv hrw
            go_upto_region 11 with (fail)
            have ez1 : (m : Int) + 1 - 1 = (m : Int) := by omega
            try simp only [ez1]
            clear ez1
            have ez2 : IntKind.i64.wrap ((m : Int) + 1 - 1) = (m : Int) := by rw [show (m : Int) + 1 - 1 = (m : Int) from by omega]; exact hw1
            have ez3 : wrap64 ((m : Int) + 1 - 1) = (m : Int) := by rw [show (m : Int) + 1 - 1 = (m : Int) from by omega]; exact hw2
            go_quiet (fail)
            clear ez2 ez3 hkk hn0 hn0' hn2 hr1 hr2 hw1 hw2 hw3 hw4 l0 g2
            have HSq := Lib.hid (HS.out.calm ((Fr.refl (fun _ => False) wr).drewN nq))
            generalize wr.drewN nq = wq at HSq ⊢
            clear HS
            go_upto_block 2 with (fail)
            go_cut [12, 13, 14] (fun s12 s13 s14 wx => ∃ (M1 : Md) (since1 : List Int), WtS W w4 cb c ib q qs tb rs td st M1 since1 wx ∧ M1.ms.length ≤ M.ms.length + rn ∧ Wi c rs M1.ms since1 [] ∧ Sg bs m (m + 1) n since1 ∧ 0 ≤ M1.ref ∧ M1.ref ≤ 8 * (m : Int) + 8)
            case first =>
              go_wp2_with fail
              go_loopw [12, 13, 14] (fun v s13 s14 wr' => ∃ (i : Nat) (M1 : Md) (since1 : List Int), v = .int .i64 i ∧ i ≤ rn ∧ WtS W w4 cb c ib q qs tb rs td st M1 since1 wr' ∧ M1.ms.length ≤ M.ms.length + i ∧ Wi c rs M1.ms since1 [] ∧ Sg bs m (m + 1) n since1 ∧ 0 ≤ M1.ref ∧ M1.ref ≤ 8 * (m : Int) + (i : Int)) (fun v _ _ _ => 20 - (intOf v).toNat)
              case atStart => exact ⟨0, M, since, rfl, Nat.zero_le _, HSq.out, Nat.le_refl _, HW.out, HG.out.more (by omega), HRF0.out.1, by have := HRF0.out.2; omega⟩
              case round =>
                clear HSq HW HG HRF0
                rename World => wi
                obtain ⟨i, M1, since1, rfl, hi, hS, hlen, hW, hG, hr0, hr1⟩ := hrel
                have HS := Lib.hid hS
                have HW := Lib.hid hW
                have HG := Lib.hid hG
                have HLE := Lib.hid hlen
                clear hS hW hG hlen
                by_cases hin : i < rn
                · have hin' : (i : Int) < (rn : Int) := by omega
                  by_cases hmn : m < n
                  · have hmn' : (m : Int) + 1 ≤ (n : Int) := by omega
                    go_upto_block 3 with (fail)
                    go_cut [13, 14] (fun s13 s14 wx => ∃ (M2 : Md) (since2 : List Int), WtS W w4 cb c ib q qs tb rs td st M2 since2 wx ∧ M2.ms.length ≤ M.ms.length + (i + 1) ∧ Wi c rs M2.ms since2 [] ∧ Sg bs m (m + 1) n since2 ∧ 0 ≤ M2.ref ∧ M2.ref ≤ 8 * (m : Int) + ((i + 1 : Nat) : Int))
                    case first =>
                      have rr := HROW.out _ HS.out.fr
                      obtain ⟨yb, yo, rfl, hyb⟩ := rr.plain (by omega)
                      obtain ⟨x, hx⟩ : ∃ x, l.getD i 0 = x := ⟨_, rfl⟩
                      have hxm : x ∈ l := by rw [← hx, List.getD_eq_getElem?_getD, List.getElem?_eq_getElem (by have := HLN.out; omega)]; exact List.getElem_mem _
                      have hxr := HLK.out.1.2 x hxm
                      obtain ⟨kx, rfl⟩ : ∃ kx : Nat, x = (kx : Int) := ⟨x.toNat, by omega⟩
                      have x0 := rr.i64 hin hx
                      have HKX : Hid (kx < c.N) := Lib.hid (by omega)
                      have hkx8 : (kx : Int) < 8 := by have := HLC.out.N8; omega
                      have hkxN : (kx : Int) < (c.N : Int) := by omega
                      have hkx0 : (0 : Int) ≤ (kx : Int) := by omega
                      clear hx hxm hxr rr
                      go_upto_region 16 with (fail)
                      clear x0
                      have rz := HRD.out.fr HS.out.lw.fr (fun _ _ x => x)
                      obtain ⟨zb, zo, rfl, hzb⟩ := rz.plain (by omega)
                      obtain ⟨y, hy⟩ : ∃ y, zs.getD m 0 = y := ⟨_, rfl⟩
                      have y0 := rz.u16 hmn hy
                      have hyw := bounds_u16 (HWA.out y (by have h1 := rz.1; rw [← hy, List.getD_eq_getElem?_getD, List.getElem?_eq_getElem (by omega)]; exact List.getElem_mem _))
                      have hy1 := hyw.1
                      have hy2 := hyw.2
                      have hmn2 : (m : Int) < (n : Int) := by omega
                      clear rz hy hyw
                      go_cut [14] (fun s14 wx => wx = wi ∧ ∃ b : Bool, s14 = .bool b)
                      case first =>
                        go_wp2_with fail
                        go_meet
                        case rel => exact ⟨rfl, _, rfl⟩
                      case rest =>
                        obtain ⟨hwx, on, rfl⟩ := hcut
                        obtain rfl := hwx.symm
                        clear y0
                        obtain ⟨rr_, hr_⟩ : ∃ r, ofr c rs M1 ((m : Int) + 1) (kx : Int) on = r := ⟨_, rfl⟩
                        have hrf := ofr_ref c rs M1 ((m : Int) + 1) (kx : Int) on
                        rw [hr_] at hrf
                        obtain ⟨rb, rM⟩ := rr_
                        have HRF : Hid (M1.ref ≤ rM.ref ∧ rM.ref ≤ M1.ref + 1) := Lib.hid hrf
                        have HRQ := Lib.hid hr_
                        have HO1 := Lib.hid (ikoffer wi ib q qs tb c rs M1 HS.out.lw.ik ((m : Int) + 1) (kx : Int) on ⟨hr0, by omega⟩)
                        rw [HRQ.out] at HO1
                        have HWO := Lib.hid (HW.out.offer HKX.out (by omega : (1 : Int) ≤ (m : Int) + 1) HRQ.out)
                        have HTO := Lib.hid (ofr_told HS.out.lw.ik.tl HKX.out HRQ.out)
                        have HREF : Hid (0 ≤ rM.ref ∧ rM.ref ≤ 8 * (m : Int) + ((i + 1 : Nat) : Int)) := Lib.hid (by have := HRF.out; push_cast; omega)
                        have HLE2 : Hid (rM.ms.length ≤ M.ms.length + (i + 1)) := Lib.hid (by have := HWO.out.2.2; have := HLE.out; omega)
                        clear hrf hr_
                        go_wp2_with fail
                        refine HO1.out.mono ?_
                        rintro e w7 ⟨rfl, I7, F7⟩
                        have HL7 : Hid (Lw W cb c ib q qs tb rs rM w7) := Lib.hid (HS.out.lw.step HLC.out F7 I7)
                        have HT7 := Lib.hid (F7.at_ HS.out.tt HTC.out.t)
                        have HK7 := Lib.hid (F7.at_ HS.out.ss HTC.out.l)
                        have HF7 := Lib.hid (HS.out.fr.step F7 HUP4.out)
                        clear I7 F7
                        cases rb
                        · have HTD2 : Hid (rM.told = M1.told) := Lib.hid (by rw [HTO.out, if_neg (by simp)])
                          have HMS := Lib.hid (HWO.out.2.1 (.inl rfl))
                          go_wp2_with fail
                          go_meet
                          case rel => exact ⟨rM, since1, ⟨HL7.out, by rw [HTD2.out]; exact HT7.out, HK7.out, HF7.out⟩, HLE2.out, by rw [HMS.out]; exact HW.out, HG.out, HREF.out.1, HREF.out.2⟩
                        · obtain ⟨bo, hbo⟩ : ∃ b, M1.told.getD kx false = b := ⟨_, rfl⟩
                          have tc := told_cell HT7.out (k := kx) (by rw [HS.out.lw.ik.tl]; exact HKX.out) hbo
                          have HBO := Lib.hid hbo
                          clear hbo
                          cases on
                          · cases bo
                            · have HTD2 : Hid (rM.told = M1.told) := Lib.hid (by rw [HTO.out, if_pos rfl, told_same HBO.out])
                              have HMS := Lib.hid (HWO.out.2.1 (.inr HBO.out))
                              go_wp2_with fail
                              go_meet
                              case rel => exact ⟨rM, since1, ⟨HL7.out, by rw [HTD2.out]; exact HT7.out, HK7.out, HF7.out⟩, HLE2.out, by rw [HMS.out]; exact HW.out, HG.out, HREF.out.1, HREF.out.2⟩
                            · have T8 := told_set HT7.out (k := kx) (by rw [HS.out.lw.ik.tl]; exact HKX.out) false
                              have F8 := (Fr.refl (fun k => k = td) w7).setCell (p := ⟨td, kx, none⟩) (fun _ => rfl) (.bool false)
                              have zt := frozen_of HT7.out kx
                              generalize hw8 : w7.setCell ⟨td, kx, none⟩ (.bool false) = w8 at T8 F8
                              have HS8 : Hid (WtS W w4 cb c ib q qs tb rs td st rM since1 w8) := Lib.hid ⟨⟨F8.at_ HL7.out.cf HTC.out.ct, HL7.out.ik.fr F8 (fun k e => ⟨fun h => HTC.out.t (by rw [← e]; exact h), fun h0 ad ha e2 => by
                                have h2 := HRVW.out ad ha h0
                                omega⟩), HL7.out.fr.step F8 (fun k e => by have := HTC.out.tW; omega)⟩, by rw [HTO.out, if_pos rfl]; exact T8, F8.at_ HK7.out (fun e => HTC.out.tl e.symm), HF7.out.step F8 (fun k e => by have := HT4.out; omega)⟩
                              have HWN := Lib.hid (HWO.out.1 rfl (by rw [HBO.out]; decide))
                              clear T8 F8
                              obtain ⟨sy, hsy⟩ : ∃ y, since1.getD kx 0 = y := ⟨_, rfl⟩
                              have sc := since_cell HS8.out.ss (k := kx) (by rw [HW.out.sl]; exact HKX.out) hsy
                              have HSY := Lib.hid hsy
                              clear hsy
                              by_cases h0 : sy = 0
                              · subst h0
                                have T9 := since_set HS8.out.ss kx ((m : Int) + 1)
                                have F9 := (Fr.refl (fun k => k = st) w8).setCell (p := ⟨st, kx, none⟩) (fun _ => rfl) (.int .i64 ((m : Int) + 1))
                                have zs8 := frozen_of HS8.out.ss kx
                                generalize hw9 : w8.setCell ⟨st, kx, none⟩ (.int .i64 ((m : Int) + 1)) = w9 at T9 F9
                                have HS9 : Hid (WtS W w4 cb c ib q qs tb rs td st rM (since1.set kx ((m : Int) + 1)) w9) := Lib.hid ⟨⟨F9.at_ HS8.out.lw.cf HTC.out.cl, HS8.out.lw.ik.fr F9 (fun k e => ⟨fun h => HTC.out.l (by rw [← e]; exact h), fun h0 ad ha e2 => by
                                  have h2 := HRVW.out ad ha h0
                                  have h3 := HT4.out.2.2
                                  omega⟩), HS8.out.lw.fr.step F9 (fun k e => by have := HTC.out.lW; omega)⟩, F9.at_ HS8.out.tt HTC.out.tl, T9, HS8.out.fr.step F9 (fun k e => by have := HT4.out; omega)⟩
                                clear T9 F9
                                go_wp2_with fail
                                go_meet
                                case rel => exact ⟨rM, _, HS9.out, HLE2.out, by have := HWN.out; rw [if_pos HSY.out] at this; exact this, by have := HG.out.put (k := kx) (now := m + 1) (by omega) (by omega) (by omega) (by omega); rw [if_pos HSY.out] at this; exact this, HREF.out.1, HREF.out.2⟩
                              · have h0' : (sy == 0) = false := by simp [h0]
                                have HN0 : Hid (¬ since1.getD kx 0 = 0) := Lib.hid (by rw [HSY.out]; exact h0)
                                clear h0
                                go_wp2_with fail
                                go_meet
                                case rel => exact ⟨rM, since1, HS8.out, HLE2.out, by have := HWN.out; rw [if_neg HN0.out] at this; exact this, HG.out, HREF.out.1, HREF.out.2⟩
                          · cases bo
                            · have T8 := told_set HT7.out (k := kx) (by rw [HS.out.lw.ik.tl]; exact HKX.out) true
                              have F8 := (Fr.refl (fun k => k = td) w7).setCell (p := ⟨td, kx, none⟩) (fun _ => rfl) (.bool true)
                              have zt := frozen_of HT7.out kx
                              generalize hw8 : w7.setCell ⟨td, kx, none⟩ (.bool true) = w8 at T8 F8
                              have HS8 : Hid (WtS W w4 cb c ib q qs tb rs td st rM since1 w8) := Lib.hid ⟨⟨F8.at_ HL7.out.cf HTC.out.ct, HL7.out.ik.fr F8 (fun k e => ⟨fun h => HTC.out.t (by rw [← e]; exact h), fun h0 ad ha e2 => by
                                have h2 := HRVW.out ad ha h0
                                omega⟩), HL7.out.fr.step F8 (fun k e => by have := HTC.out.tW; omega)⟩, by rw [HTO.out, if_pos rfl]; exact T8, F8.at_ HK7.out (fun e => HTC.out.tl e.symm), HF7.out.step F8 (fun k e => by have := HT4.out; omega)⟩
                              have HWN := Lib.hid (HWO.out.1 rfl (by rw [HBO.out]; decide))
                              clear T8 F8
                              obtain ⟨sy, hsy⟩ : ∃ y, since1.getD kx 0 = y := ⟨_, rfl⟩
                              have sc := since_cell HS8.out.ss (k := kx) (by rw [HW.out.sl]; exact HKX.out) hsy
                              have HSY := Lib.hid hsy
                              clear hsy
                              by_cases h0 : sy = 0
                              · subst h0
                                have T9 := since_set HS8.out.ss kx ((m : Int) + 1)
                                have F9 := (Fr.refl (fun k => k = st) w8).setCell (p := ⟨st, kx, none⟩) (fun _ => rfl) (.int .i64 ((m : Int) + 1))
                                have zs8 := frozen_of HS8.out.ss kx
                                generalize hw9 : w8.setCell ⟨st, kx, none⟩ (.int .i64 ((m : Int) + 1)) = w9 at T9 F9
                                have HS9 : Hid (WtS W w4 cb c ib q qs tb rs td st rM (since1.set kx ((m : Int) + 1)) w9) := Lib.hid ⟨⟨F9.at_ HS8.out.lw.cf HTC.out.cl, HS8.out.lw.ik.fr F9 (fun k e => ⟨fun h => HTC.out.l (by rw [← e]; exact h), fun h0 ad ha e2 => by
                                  have h2 := HRVW.out ad ha h0
                                  have h3 := HT4.out.2.2
                                  omega⟩), HS8.out.lw.fr.step F9 (fun k e => by have := HTC.out.lW; omega)⟩, F9.at_ HS8.out.tt HTC.out.tl, T9, HS8.out.fr.step F9 (fun k e => by have := HT4.out; omega)⟩
                                clear T9 F9
                                go_wp2_with fail
                                go_meet
                                case rel => exact ⟨rM, _, HS9.out, HLE2.out, by have := HWN.out; rw [if_pos HSY.out] at this; exact this, by have := HG.out.put (k := kx) (now := m + 1) (by omega) (by omega) (by omega) (by omega); rw [if_pos HSY.out] at this; exact this, HREF.out.1, HREF.out.2⟩
                              · have h0' : (sy == 0) = false := by simp [h0]
                                have HN0 : Hid (¬ since1.getD kx 0 = 0) := Lib.hid (by rw [HSY.out]; exact h0)
                                clear h0
                                go_wp2_with fail
                                go_meet
                                case rel => exact ⟨rM, since1, HS8.out, HLE2.out, by have := HWN.out; rw [if_neg HN0.out] at this; exact this, HG.out, HREF.out.1, HREF.out.2⟩
                            · have HTD2 : Hid (rM.told = M1.told) := Lib.hid (by rw [HTO.out, if_pos rfl, told_same HBO.out])
                              have HMS := Lib.hid (HWO.out.2.1 (.inr HBO.out))
                              go_wp2_with fail
                              go_meet
                              case rel => exact ⟨rM, since1, ⟨HL7.out, by rw [HTD2.out]; exact HT7.out, HK7.out, HF7.out⟩, HLE2.out, by rw [HMS.out]; exact HW.out, HG.out, HREF.out.1, HREF.out.2⟩
                    case rest =>
                      obtain ⟨M2, since2, hS2, hL2, hW2, hG2, hr2, hr3⟩ := hcut
                      have HS2 := Lib.hid hS2
                      have HW2 := Lib.hid hW2
                      have HG2 := Lib.hid hG2
                      clear hS2 hW2 hG2
                      generalize wc = wd at HS2 ⊢
                      go_wp2_with fail
                      go_roundw
                      case rel => exact ⟨i + 1, M2, since2, by go_num, by omega, HS2.out, hL2, HW2.out, HG2.out, hr2, hr3⟩
                      case measure => simp [intOf]; omega
                  · have hmn' : ¬ (m : Int) + 1 ≤ (n : Int) := by omega
                    go_wp2_with fail
                    go_meet
                    case rel => exact ⟨M1, since1, HS.out, by have := HLE.out; omega, HW.out, HG.out, hr0, by omega⟩
                · have hin' : ¬ (i : Int) < (rn : Int) := by omega
                  go_wp2_with fail
                  go_meet
                  case rel => exact ⟨M1, since1, HS.out, by have := HLE.out; omega, HW.out, HG.out, hr0, by omega⟩
            case rest =>
              obtain ⟨M1, since1, hS1, hlen1, hW1, hG1, hr0, hr1⟩ := hcut
              have HSc := Lib.hid hS1
              have HW1 := Lib.hid hW1
              have HG1 := Lib.hid hG1
              have HREF1 : Hid (0 ≤ M1.ref ∧ M1.ref ≤ 8 * ((m : Int) + 1)) := Lib.hid ⟨hr0, by omega⟩
              have HLEN1 := Lib.hid hlen1
              clear hS1 hW1 hG1 hlen1 HSq HW HG HRF0
              generalize wc = wd at HSc ⊢
              have HDN := Lib.hid (ikdrain wd ib q qs tb c rs M1 HSc.out.lw.ik HDR.out.2.1)
              go_wp2_with fail
              refine HDN.out.mono ?_
              rintro e we ⟨out, ms', A1, k1, rfl, Ow, hdn, hle, hnil, Ie, Fe⟩
              have HLe : Hid (Lw W cb c ib q qs tb rs ⟨ms', M1.told, M1.last, M1.ref⟩ we) := Lib.hid (HSc.out.lw.step HLC.out Fe Ie)
              have HTe := Lib.hid (Fe.at_ HSc.out.tt HTC.out.t)
              have HKe := Lib.hid (Fe.at_ HSc.out.ss HTC.out.l)
              have HFe := Lib.hid (HSc.out.fr.step Fe HUP4.out)
              have HDNE := Lib.hid (And.intro hdn (And.intro hle hnil))
              have HOwn := Lib.hid Ow
              obtain ⟨A1x, k1x, hv, rde, hA1⟩ := Ow.reads
              injection hv with hv1 hv2 hv3
              subst hv1
              have HRDe : Hid (∀ w', Fr (fun k => k = st) we w' → Reads RE.E w' A1 out.length out) := Lib.hid (fun w' h => rde.fr h (fun ad ha e => by
                have h1 := hA1 ad ha
                have h2 := lt_of HSc.out.ss
                omega))
              have HLEN : Hid (out.length ≤ 1000) := Lib.hid (by
                rcases hle with h | h
                · have := HDR.out.2.1; omega
                · rw [h]; simp)
              have hdo : ¬ c.dr < (out.length : Int) := by
                rcases hle with h | h
                · omega
                · rw [h]; have := HDR.out.1; simp; omega
              have HWd := Lib.hid (HW1.out.drain hdn)
              have hlen := HLEN.out
              obtain ⟨-, -, -, -, -, -, g6, -⟩ := cells11 HLe.out.cf
              clear Ow hdn hle hnil Ie Fe rde hA1 hv2 hv3
              go_wp2_with fail
              clear g6 hdo
              go_loopw [16] (fun v wr => ∃ (jj : Nat) (since2 : List Int), v = .int .i64 jj ∧ jj ≤ out.length ∧ Wi c rs ms' since2 ((out.drop jj).map (fun x => x.1)) ∧ Sg bs m (m + 1) n since2 ∧ wr.heap[st]? = some (.cells (EI.flat since2) 3 (0, 0)) ∧ Fr (fun k => k = st) we wr) (fun v _ => 2000 - (intOf v).toNat)
              case atStart => exact ⟨0, since1, rfl, Nat.zero_le _, HWd.out, HG1.out, HKe.out, Fr.refl _ _⟩
              case round =>
                rename World => wx
                obtain ⟨jj, since2, rfl, hjj, hW2, hG2, hl1, hf1⟩ := hrel
                have HW2 := Lib.hid hW2
                have HG2 := Lib.hid hG2
                have HL1 := Lib.hid hl1
                have HF1x := Lib.hid hf1
                clear hW2 hG2 hl1 hf1
                by_cases hjl : jj < out.length
                · have hjl' : (jj : Int) < (out.length : Int) := by omega
                  obtain ⟨ev, hev⟩ : ∃ ev, out.getD jj RE.E.z = ev := ⟨_, rfl⟩
                  obtain ⟨x1, x2, x3⟩ := ev
                  have hdr2 : (out.drop jj).map (fun x => x.1) = x1 :: (out.drop (jj + 1)).map (fun x => x.1) := by
                    rw [List.drop_eq_getElem_cons hjl, List.map_cons]
                    rw [List.getD_eq_getElem?_getD, List.getElem?_eq_getElem hjl] at hev
                    rw [show out[jj] = (x1, x2, x3) from hev]
                  obtain ⟨kx, hkx, hx1, hne0, hi2⟩ := (show Wi c rs ms' since2 (x1 :: (out.drop (jj + 1)).map (fun x => x.1)) by rw [← hdr2]; exact HW2.out).pop
                  subst hx1
                  have HI2 := Lib.hid hi2
                  have HKX := Lib.hid hkx
                  obtain ⟨s, hsv, hs1, hs2, hs3, hs4⟩ := HG2.out kx hne0
                  have hlate := HH.out.late (slen_per tbl c.t) HENO.out hs1 hs4
                  rw [HWT.out] at hlate
                  have sc := since_cell HL1.out (k := kx) (by rw [HW2.out.sl]; exact hkx) hsv
                  have zs := frozen_of HL1.out kx
                  have T8 := since_set HL1.out kx 0
                  have F8 := (Fr.refl (fun k => k = st) wx).setCell (p := ⟨st, kx, none⟩) (fun _ => rfl) (.int .i64 0)
                  have HT8 := Lib.hid T8
                  have HF8 := Lib.hid (HF1x.out.trans F8 (fun _ _ h => h))
                  have rdx := HRDe.out _ HF1x.out
                  obtain ⟨eb, eo, hA, heb⟩ := rdx.plain (by omega)
                  rw [hA] at rdx
                  obtain ⟨e0, e1, e2⟩ := rdx.ev hjl hev
                  obtain rfl := hA
                  have hkx' : (kx : Int) < (c.N : Int) := by omega
                  have hkx3 : ¬ (c.N : Int) ≤ (kx : Int) := by omega
                  have hkx0 : ¬ ((kx : Int) < 0) := by omega
                  have hkx1 : (0 : Int) ≤ (kx : Int) := by omega
                  have hs0 : ((s : Int) == 0) = false := by simp; omega
                  have hsl : ¬ (wt : Int) ≤ (m : Int) + 1 - (s : Int) := by omega
                  have HSINV : Hid (Wi c rs ms' (since2.set kx 0) ((out.drop (jj + 1)).map (fun x => x.1)) ∧ Sg bs m (m + 1) n (since2.set kx 0)) := Lib.hid ⟨HI2.out, HG2.out.clear kx⟩
                  clear hev hdr2 hi2 rdx T8 F8 hkx hsv hs4 hne0
                  go_wp2_with fail
                  go_roundw
                  case rel => exact ⟨jj + 1, since2.set kx 0, by go_num, by omega, HSINV.out.1, HSINV.out.2, HT8.out, HF8.out⟩
                  case measure => simp [intOf]; omega
                · have hjl' : ¬ (jj : Int) < (out.length : Int) := by omega
                  have HWn : Hid (Wi c rs ms' since2 []) := Lib.hid (by
                    have h := HW2.out
                    rw [List.drop_eq_nil_of_le (by omega)] at h
                    exact h)
                  have HSe : Hid (WtS W w4 cb c ib q qs tb rs td st ⟨ms', M1.told, M1.last, M1.ref⟩ since2 wx) := Lib.hid ⟨⟨HF1x.out.at_ HLe.out.cf HTC.out.cl, HLe.out.ik.fr HF1x.out (fun k e => ⟨fun h => HTC.out.l (by rw [← e]; exact h), fun h0 ad ha e2 => by
                    have h2 := HRVW.out ad ha h0
                    have h3 := HT4.out.2.2
                    omega⟩), HLe.out.fr.step HF1x.out (fun k e => by have := HTC.out.lW; omega)⟩, HF1x.out.at_ HTe.out (fun e => HTC.out.tl e), HL1.out, HFe.out.step HF1x.out (fun k e => by have := HT4.out; omega)⟩
                  have HNX : Hid (Hist c.N dr (slen tbl c.t) (fun t => if t = m + 1 then ms'.length else bs t) (m + 1)) := Lib.hid (HH.out.next HWn.out.len (by
                    obtain ⟨hd, hl, hn⟩ := HDNE.out
                    have h1 := Drn_len hd
                    have h2 := HDRN.out
                    by_cases e : (out.length : Int) < c.dr
                    · left; rw [hn e]; rfl
                    · right
                      have h3 := HLEN1.out
                      rw [HSL.out, HBM.out]
                      have h4 : dr ≤ out.length := by omega
                      omega))
                  have HGN : Hid (Sg (fun t => if t = m + 1 then ms'.length else bs t) (m + 1) (m + 1) n since2) := Lib.hid (HG2.out.next (fun ⟨k, hk⟩ => by
                    have hkN : k < c.N := Decidable.byContradiction fun h => hk (by rw [List.getD_eq_getElem?_getD, List.getElem?_eq_none (by rw [HWn.out.sl]; omega)]; rfl)
                    have h := (HWn.out.la k hkN).1 hk
                    rw [List.nil_append] at h
                    obtain ⟨y, hy, _⟩ := List.mem_map.1 h
                    exact List.length_pos_of_mem hy))
                  go_wp2_with fail
                  go_roundw
                  case rel => exact ⟨m + 1, ⟨ms', M1.told, M1.last, M1.ref⟩, since2, _, by go_num, by omega, HSe.out, HNX.out, by simp, HWn.out, HGN.out, HREF1.out.1, by have := HREF1.out.2; push_cast; exact this⟩
                  case measure => simp [intOf]; omega
          · have hlt' : ¬ (m : Int) + 1 ≤ (n : Int) + (wt : Int) := by omega
            have hmm : Hid (m = n + wt) := Lib.hid (by omega)
            go_wp2_with fail
            go_meet
            case rel => exact ⟨M, since, bs, HS.out, by rw [← hmm.out]; exact HH.out, by rw [← hmm.out]; exact HG.out, HW.out.sl⟩
      case rest =>
        obtain ⟨M, since, bs, hS, hH, hG, hsl⟩ := hcut
        have HS := Lib.hid hS
        have HZ : Hid (∀ k : Nat, since.getD k 0 = 0) := Lib.hid (fun k => Decidable.byContradiction fun h => by
          obtain ⟨s, hsv, hs1, hs2, hs3, hs4⟩ := hG k h
          have hlate := hH.late (slen_per tbl c.t) HENO.out hs1 hs4
          rw [HWT.out] at hlate
          omega)
        have HSL := Lib.hid hsl
        clear hS hH hG HTS hsl
        generalize wc = wz at HS ⊢
        go_wp2_with fail
        go_loopw [18] (fun v wr => ∃ k : Nat, v = .int .i64 k ∧ k ≤ c.N ∧ wr = wz) (fun v _ => 20 - (intOf v).toNat)
        case atStart => exact ⟨0, rfl, Nat.zero_le _, rfl⟩
        case round =>
          obtain ⟨k, rfl, hk, hwr⟩ := hrel
          obtain rfl := hwr.symm
          by_cases hkN : k < c.N
          · have hkN' : (k : Int) < (c.N : Int) := by omega
            have hk0 : (0 : Int) ≤ (k : Int) := by omega
            have sc := since_cell HS.out.ss (k := k) (by rw [HSL.out]; exact hkN) (HZ.out k)
            go_wp2_with fail
            go_roundw
            case rel => exact ⟨k + 1, by go_num, by omega, by first | rfl | trivial⟩
            case measure => simp [intOf]; omega
          · have hkN' : ¬ (k : Int) < (c.N : Int) := by omega
            go_wp2_with fail
            go_ret
            exact ⟨rfl, HS.out.lw.fr.below⟩
  · have hlim' : (200 : Int) < (n : Int) := by omega
    go_enter Try.func6, Try.ntmps6
    go_wp2_with fail
    refine (refuses_any _).mono ?_
    rintro e w2 ⟨rfl, F_w2⟩
    have G_w2 := Lib.hid (F_w2)
    clear F_w2
    clear hw1
    obtain ⟨q0, q1, q2, q3, q4, q5, q6, q7⟩ := cells8 (G_w2.out.at_ HBD.out (fun x => x))
    have HSH := Lib.hid (short_any w2 A0 A1 n0 k0 n1 k1 gb gd gp go_ gk gl ls (HD.out.rd.fr G_w2.out (fun _ _ x => x)))
    go_wp2_with fail
    refine HSH.out.mono ?_
    rintro e w3 ⟨b, rfl, F3⟩
    have G_w3 := Lib.hid (G_w2.out.step F3 nop)
    clear F3 q0 q1 q2 q3 q4 q5 q6 q7
    cases b
    · go_wp2_with fail
      refine (refuses_any _).mono ?_
      rintro e w4 ⟨rfl, F_w4⟩
      have G_w4 := Lib.hid (G_w3.out.step F_w4 nop)
      clear F_w4
      go_wp2_with fail
      go_ret
      exact ⟨rfl, (HF1.out.step G_w4.out nop).below⟩
    · go_wp2_with fail
      refine (refuses_any _).mono ?_
      rintro e w4 ⟨rfl, F_w4⟩
      have G_w4 := Lib.hid (G_w3.out.step F_w4 nop)
      clear F_w4
      go_wp2_with fail
      go_ret
      exact ⟨rfl, (HF1.out.step G_w4.out nop).below⟩

end Go.Proofs.Ytahddolplklopaa
