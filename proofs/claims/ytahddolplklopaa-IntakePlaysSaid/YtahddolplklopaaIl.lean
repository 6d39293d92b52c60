/- Il. -/
import Derived.Test.YtahddolplklopaaChecked
import Derived.WalkKit
import Derived.Laws.IdiomCopy
import Derived.Deep.QuietTactic
import Derived.BigQuiet
import Derived.Lib.Hide
import Derived.OpenShut
import Derived.StillTailTactics
import Derived.Deep.RegionWith
import Derived.Deep.RegionLaw
import Derived.Deep.Slices
import Derived.Deep.RegionHeld3
import Derived.OwnWalk
import Derived.Deep.DeepCutAuto
import Derived.Deep.CutRange
import Derived.Test.YtahddolplklopaaBase
import Derived.Test.YtahddolplklopaaCalm
import Derived.Test.YtahddolplklopaaCalmT
import Derived.Test.YtahddolplklopaaCel
import Derived.Test.YtahddolplklopaaApp
import Derived.Test.YtahddolplklopaaRE
import Derived.Test.YtahddolplklopaaREB
import Derived.Test.YtahddolplklopaaREC
import Derived.Test.YtahddolplklopaaREA
import Derived.Test.YtahddolplklopaaBq
import Derived.Test.YtahddolplklopaaBp
import Derived.Test.YtahddolplklopaaBx
import Derived.Test.YtahddolplklopaaBr
import Derived.Test.YtahddolplklopaaBk0
import Derived.Test.YtahddolplklopaaBt
import Derived.Test.YtahddolplklopaaBk
import Derived.Test.YtahddolplklopaaBu
import Derived.Test.YtahddolplklopaaBv
import Derived.Maps.AppendAt
import Derived.Test.YtahddolplklopaaMkD
import Derived.Test.YtahddolplklopaaMkE
import Derived.Test.YtahddolplklopaaClk
import Derived.Test.YtahddolplklopaaIk
import Derived.Test.YtahddolplklopaaMkM
import Derived.BigRegion
namespace Go.Proofs.Ytahddolplklopaa
open Go.RowKit
set_option linter.unusedVariables false
set_option linter.unusedSimpArgs false

/-! ### Make, its configuration by one name -/
structure CfOf (c : Cf) (sb n0 : Nat) (gb gp go_ : Int) (gk : Bool) (gl : Int) : Prop where
  s1 : c.s1 = some ⟨sb, 0, none⟩
  s2 : c.s2 = 3
  s3 : c.s3 = 3
  N : c.N = nRul n0
  b0 : c.b0 = 1 + gb % 16 % 3
  b1 : c.b1 = 1 + gb % 16 / 2 % 3
  b2 : c.b2 = 1 + gb % 16 / 4 % 4
  pa : c.pa = 1 + gp % 30
  of_ : c.of_ = 1 + go_ % 30
  br : c.br = gk
  lg : c.lg = 1 + gl % 40
structure MkC (W : World) (n0 : Nat) (ls : List Ln) (ss : List (List Int)) (gb gd gp go_ : Int) (gk : Bool) (gl : Int) (c : Cf) (sb : Nat) (rs : List Rl) (vs : List Tr) (tb : List (List Int)) (w' : World) : Prop where
  cf : CfOf c sb n0 gb gp go_ gk gl
  dr : c.dr = mkDr tb c.t gd
  md : Mkd w' W.heap.size n0 ls ss gb sb c.rv c.rk rs c.t c.tv c.tk vs tb
  fr : Fr (fun _ => False) W w'
theorem nRul_rng (n : Nat) : 1 ≤ nRul n ∧ nRul n ≤ 8 := by unfold nRul; split <;> (try split) <;> omega
theorem Make_c (W : World) (A0 A1 : Option Addr) (n0 k0 n1 k1 : Nat) (gb gd gp go_ : Int) (gk : Bool) (gl : Int) (ls : List Ln) (ss : List (List Int)) (sl : List Int) (hd : Dft W A0 n0 ls ss A1 n1 sl) (hb : byte gb ∧ byte gd ∧ byte gp ∧ byte go_ ∧ byte gl) :
    Calls Try.prog 12 #[.agg #[.slice A0 n0 k0, .slice A1 n1 k1, .int .u8 gb, .int .u8 gd, .int .u8 gp, .int .u8 go_, .bool gk, .int .u8 gl]] W fun e w' => ∃ (c : Cf) (sb : Nat) (rs : List Rl) (vs : List Tr) (tb : List (List Int)), e = .returned (.agg #[.slice c.s1 c.s2 c.s3, .slice c.rv c.N c.rk, .slice c.tv c.t c.tk, .int .i64 c.b0, .int .i64 c.b1, .int .i64 c.b2, .int .i64 c.dr, .int .i64 c.pa, .int .i64 c.of_, .bool c.br, .int .i64 c.lg]) ∧ MkC W n0 ls ss gb gd gp go_ gk gl c sb rs vs tb w' := by
  refine (Make_any W A0 A1 n0 k0 n1 k1 gb gd gp go_ gk gl ls ss sl hd hb).mono ?_
  rintro e w' ⟨sb, rv, rk, rs, t, tv, tk, vs, tb, rfl, hm, hf⟩
  exact ⟨⟨some ⟨sb, 0, none⟩, 3, 3, rv, nRul n0, rk, tv, t, tk, 1 + gb % 16 % 3, 1 + gb % 16 / 2 % 3, 1 + gb % 16 / 4 % 4, mkDr tb t gd, 1 + gp % 30, 1 + go_ % 30, gk, 1 + gl % 40⟩, sb, rs, vs, tb, rfl, ⟨rfl, rfl, rfl, rfl, rfl, rfl, rfl, rfl, rfl, rfl, rfl⟩, rfl, hm, hf⟩
section
variable {W w' : World} {n0 : Nat} {ls : List Ln} {ss : List (List Int)} {gb gd gp go_ : Int} {gk : Bool} {gl : Int} {c : Cf} {sb : Nat} {rs : List Rl} {vs : List Tr} {tb : List (List Int)}
theorem MkC.rd (h : MkC W n0 ls ss gb gd gp go_ gk gl c sb rs vs tb w') : Reads ERl w' c.rv c.N rs := by
  obtain ⟨A, k, hv, rd, _⟩ := h.md.hrs.own.reads
  injection hv with e1 e2 e3
  rw [e1, h.cf.N, e2]; exact rd
theorem MkC.pr (h : MkC W n0 ls ss gb gd gp go_ gk gl c sb rs vs tb w') : ∀ k, k < c.N → 1 ≤ (rs.getD k ERl.z).p ∧ (rs.getD k ERl.z).p ≤ 3 := fun k hk => by
  have := (h.md.hrs.of_ k (by rw [← h.cf.N]; exact hk)).p
  rw [this]; unfold mkP; omega
theorem MkC.N8 (h : MkC W n0 ls ss gb gd gp go_ gk gl c sb rs vs tb w') : 1 ≤ c.N ∧ c.N ≤ 8 := by rw [h.cf.N]; exact nRul_rng n0
theorem MkC.t6 (h : MkC W n0 ls ss gb gd gp go_ gk gl c sb rs vs tb w') : 1 ≤ c.t ∧ c.t ≤ 6 := by have := h.md.nt; omega
end
def ShPost (w : World) (e : Ending) (w' : World) : Prop := ∃ b : Bool, e = .returned (.bool b) ∧ Fr (fun _ => False) w w'
set_option maxRecDepth 100000 in
set_option maxHeartbeats 8000000 in
theorem short_any (w : World) (A0 A1 : Option Addr) (n0 k0 n1 k1 : Nat) (gb gd gp go_ : Int) (gk : Bool) (gl : Int) (ls : List Ln) (hr : Reads ELn w A0 n0 ls) :
    Calls Try.prog 11 #[.agg #[.slice A0 n0 k0, .slice A1 n1 k1, .int .u8 gb, .int .u8 gd, .int .u8 gp, .int .u8 go_, .bool gk, .int .u8 gl]] w (ShPost w) := by
  have B := alloc_is (w := w) (n := w.heap.size) (.cells #[.slice A0 n0 k0, .slice A1 n1 k1, .int .u8 gb, .int .u8 gd, .int .u8 gp, .int .u8 go_, .bool gk, .int .u8 gl] 25) rfl
  have F := (Fr.refl (fun _ => False) w).alloc (.cells #[.slice A0 n0 k0, .slice A1 n1 k1, .int .u8 gb, .int .u8 gd, .int .u8 gp, .int .u8 go_, .bool gk, .int .u8 gl] 25)
  generalize hw1 : w.alloc (.cells #[.slice A0 n0 k0, .slice A1 n1 k1, .int .u8 gb, .int .u8 gd, .int .u8 gp, .int .u8 go_, .bool gk, .int .u8 gl] 25) = w1 at B F
  have HB := Lib.hid B
  have HF := Lib.hid F
  have HR := Lib.hid (hr.fr F (fun _ _ x => x))
  obtain ⟨q0, q1, -⟩ := cells8 B
  clear B F hr
  by_cases h12 : n0 ≤ 12
  · have h12' : ¬ (12 : Int) < (n0 : Int) := by omega
    by_cases h40 : n1 ≤ 40
    · have h40' : ¬ (40 : Int) < (n1 : Int) := by omega
      go_enter Try.func11, Try.ntmps11
      go_wp2_with fail
      clear q0 q1 hw1
      go_loopw [3] (fun v wr => ∃ k : Nat, v = .int .i64 k ∧ k ≤ n0 ∧ Fr (fun _ => False) w1 wr) (fun v _ => 20 - (intOf v).toNat)
      case atStart => exact ⟨0, rfl, Nat.zero_le _, Fr.refl _ _⟩
      case round =>
        obtain ⟨k, rfl, hk, Fk⟩ := hrel
        have HFk := Lib.hid Fk
        obtain ⟨q0, -⟩ := cells8 (Fk.at_ HB.out (fun x => x))
        by_cases hlt : k < n0
        · have hlt' : (k : Int) < (n0 : Int) := by omega
          have rz := HR.out.fr Fk (fun _ _ x => x)
          obtain ⟨zb, zo, rfl, hzb⟩ := rz.plain (by omega)
          obtain ⟨y, hy⟩ : ∃ y, ls.getD k ELn.z = y := ⟨_, rfl⟩
          obtain ⟨y0, y1, y2, y3, y4, y5, y6, y7, yA, yn, yc⟩ := y
          obtain ⟨-, -, -, -, -, -, -, -, l8⟩ := rz.ln hlt hy
          clear rz hy Fk
          by_cases h8 : yn ≤ 8
          · have h8' : ¬ (8 : Int) < (yn : Int) := by omega
            go_wp2_with fail
            go_roundw
            case rel => exact ⟨k + 1, by go_num, by omega, HFk.out⟩
            case measure => simp [intOf]; omega
          · have h8' : (8 : Int) < (yn : Int) := by omega
            go_wp2_with fail
            go_ret
            exact ⟨_, rfl, HF.out.step HFk.out nop⟩
        · have hlt' : ¬ (k : Int) < (n0 : Int) := by omega
          go_wp2_with fail
          go_ret
          exact ⟨_, rfl, HF.out.step HFk.out nop⟩
    · have h40' : (40 : Int) < (n1 : Int) := by omega
      go_enter Try.func11, Try.ntmps11
      go_wp2_with fail
      go_ret
      exact ⟨_, rfl, HF.out⟩
  · have h12' : (12 : Int) < (n0 : Int) := by omega
    go_enter Try.func11, Try.ntmps11
    go_wp2_with fail
    go_ret
    exact ⟨_, rfl, HF.out⟩
/-! ### refuses -/
set_option maxRecDepth 100000 in
set_option maxHeartbeats 8000000 in
theorem refuses_any (w : World) : Calls Try.prog 10 #[] w fun e w' => e = .returned (.bool true) ∧ Fr (fun _ => False) w w' := by
  have B0 := alloc_is (w := w) (n := w.heap.size) (.cells (ELn.flat [ELn.z, ELn.z]) 71) rfl
  have F0 := (Fr.refl (fun _ => False) w).alloc (.cells (ELn.flat [ELn.z, ELn.z]) 71)
  have RD : Reads ELn (w.alloc (.cells (ELn.flat [ELn.z, ELn.z]) 71)) (some ⟨w.heap.size, 0, none⟩) 2 [ELn.z, ELn.z] := Reads.ofB ELn B0
  have HM := Lib.hid (Make_c (w.alloc (.cells #[.int .u8 0, .int .u8 0, .int .u8 0, .int .u8 0, .int .u8 0, .int .u8 0, .int .u8 0, .bool false, .slice none 0 0, .int .u8 0, .int .u8 0, .int .u8 0, .int .u8 0, .int .u8 0, .int .u8 0, .int .u8 0, .bool false, .slice none 0 0] 71)) (some ⟨w.heap.size, 0, none⟩) none 2 2 0 0 0 0 0 0 false 0 [ELn.z, ELn.z] [[], []] [] ⟨RD, rfl, fun i hi => by
    rcases (by omega : i = 0 ∨ i = 1) with rfl | rfl <;> exact ⟨rfl, .inl rfl⟩, ⟨rfl, .inl rfl⟩, fun y hy => by simp at hy; subst hy; unfold Ln.wf byte ELn; simp, fun i hi z hz => (by
    rcases (by omega : i = 0 ∨ i = 1) with rfl | rfl <;> cases hz), fun z hz => (by cases hz)⟩ (by unfold byte; simp))
  have F0' : Fr (fun _ => False) w (w.alloc (.cells #[.int .u8 0, .int .u8 0, .int .u8 0, .int .u8 0, .int .u8 0, .int .u8 0, .int .u8 0, .bool false, .slice none 0 0, .int .u8 0, .int .u8 0, .int .u8 0, .int .u8 0, .int .u8 0, .int .u8 0, .int .u8 0, .bool false, .slice none 0 0] 71)) := F0
  have HF0 := Lib.hid F0'
  clear B0 F0 RD F0'
  go_enter Try.func10, Try.ntmps10
  go_wp2_with fail
  refine HM.out.mono ?_
  rintro e w2 ⟨c, sb, rs, vs, tb, rfl, mk⟩
  have HMK := Lib.hid mk
  have HF2 := Lib.hid (HF0.out.step mk.fr nop)
  clear mk
  have Bz1 : (w2.alloc (.cells #[.slice none 0 0, .slice none 0 0, .slice none 0 0, .int .i64 0, .int .i64 0, .int .i64 0, .int .i64 0, .int .i64 0, .int .i64 0, .bool false, .int .i64 0] 34)).heap[w2.heap.size]? = some (.cells #[.slice none 0 0, .slice none 0 0, .slice none 0 0, .int .i64 0, .int .i64 0, .int .i64 0, .int .i64 0, .int .i64 0, .int .i64 0, .bool false, .int .i64 0] 34 (0, 0)) := alloc_is _ rfl
  have Fz1 := (Fr.refl (fun _ => False) w2).alloc (.cells #[.slice none 0 0, .slice none 0 0, .slice none 0 0, .int .i64 0, .int .i64 0, .int .i64 0, .int .i64 0, .int .i64 0, .int .i64 0, .bool false, .int .i64 0] 34)
  generalize hwm1 : w2.alloc (.cells #[.slice none 0 0, .slice none 0 0, .slice none 0 0, .int .i64 0, .int .i64 0, .int .i64 0, .int .i64 0, .int .i64 0, .int .i64 0, .bool false, .int .i64 0] 34) = wm1 at Bz1 Fz1
  obtain ⟨c1_0, c1_1, c1_2, c1_3, c1_4, c1_5, c1_6, c1_7, c1_8, c1_9, c1_10⟩ := cells11 Bz1
  have z1_0 := frozen_of Bz1 0
  have z1_1 := frozen_of Bz1 1
  have z1_2 := frozen_of Bz1 2
  have z1_3 := frozen_of Bz1 3
  have z1_4 := frozen_of Bz1 4
  have z1_5 := frozen_of Bz1 5
  have z1_6 := frozen_of Bz1 6
  have z1_7 := frozen_of Bz1 7
  have z1_8 := frozen_of Bz1 8
  have z1_9 := frozen_of Bz1 9
  have z1_10 := frozen_of Bz1 10
  have B1 := put11y (y0 := .slice c.s1 c.s2 c.s3) (y1 := .slice c.rv c.N c.rk) (y2 := .slice c.tv c.t c.tk) (y3 := .int .i64 c.b0) (y4 := .int .i64 c.b1) (y5 := .int .i64 c.b2) (y6 := .int .i64 c.dr) (y7 := .int .i64 c.pa) (y8 := .int .i64 c.of_) (y9 := .bool c.br) (y10 := .int .i64 c.lg) Bz1
  have Fo1 := (Fr.refl (fun i => i = w2.heap.size) wm1).put11 (b := w2.heap.size) (fun _ => rfl) (.slice c.s1 c.s2 c.s3) (.slice c.rv c.N c.rk) (.slice c.tv c.t c.tk) (.int .i64 c.b0) (.int .i64 c.b1) (.int .i64 c.b2) (.int .i64 c.dr) (.int .i64 c.pa) (.int .i64 c.of_) (.bool c.br) (.int .i64 c.lg)
  generalize hwo1 : (((((((((((wm1.setCell ⟨w2.heap.size, 0, none⟩ (.slice c.s1 c.s2 c.s3)).setCell ⟨w2.heap.size, 1, none⟩ (.slice c.rv c.N c.rk)).setCell ⟨w2.heap.size, 2, none⟩ (.slice c.tv c.t c.tk)).setCell ⟨w2.heap.size, 3, none⟩ (.int .i64 c.b0)).setCell ⟨w2.heap.size, 4, none⟩ (.int .i64 c.b1)).setCell ⟨w2.heap.size, 5, none⟩ (.int .i64 c.b2)).setCell ⟨w2.heap.size, 6, none⟩ (.int .i64 c.dr)).setCell ⟨w2.heap.size, 7, none⟩ (.int .i64 c.pa)).setCell ⟨w2.heap.size, 8, none⟩ (.int .i64 c.of_)).setCell ⟨w2.heap.size, 9, none⟩ (.bool c.br)).setCell ⟨w2.heap.size, 10, none⟩ (.int .i64 c.lg)) = wo1 at B1 Fo1
  have FF1 := Fz1.trans Fo1 (fun i hi (h : i = w2.heap.size) => by omega)
  obtain ⟨d1_0, d1_1, d1_2, d1_3, d1_4, d1_5, d1_6, d1_7, d1_8, d1_9, d1_10⟩ := cells11 B1
  have HBc := Lib.hid B1
  have HFc := Lib.hid FF1
  clear B1 FF1
  go_upto_region 2 with (fail)
  clear c1_0 z1_0 c1_1 z1_1 c1_2 z1_2 c1_3 z1_3 c1_4 z1_4 c1_5 z1_5 c1_6 z1_6 c1_7 z1_7 c1_8 z1_8 c1_9 z1_9 c1_10 z1_10 d1_0 d1_1 d1_2 d1_3 d1_4 d1_5 d1_6 d1_7 d1_8 d1_9 d1_10 Bz1 Fz1 Fo1 hwm1 hwo1
  have BA : (((wo1.setCell ⟨w2.heap.size, 3, none⟩ (.int .i64 1)).setCell ⟨w2.heap.size, 4, none⟩ (.int .i64 1)).setCell ⟨w2.heap.size, 5, none⟩ (.int .i64 1)).heap[w2.heap.size]? = some (.cells #[.slice c.s1 c.s2 c.s3, .slice c.rv c.N c.rk, .slice c.tv c.t c.tk, .int .i64 1, .int .i64 1, .int .i64 1, .int .i64 c.dr, .int .i64 c.pa, .int .i64 c.of_, .bool c.br, .int .i64 c.lg] 34 (0, 0)) := set_at (set_at (set_at HBc.out 3 _) 4 _) 5 _
  have FA := (((Fr.refl (fun i => i = w2.heap.size) wo1).setCell (p := ⟨w2.heap.size, 3, none⟩) (fun _ => rfl) (.int .i64 1)).setCell (p := ⟨w2.heap.size, 4, none⟩) (fun _ => rfl) (.int .i64 1)).setCell (p := ⟨w2.heap.size, 5, none⟩) (fun _ => rfl) (.int .i64 1)
  generalize hwA : ((wo1.setCell ⟨w2.heap.size, 3, none⟩ (.int .i64 1)).setCell ⟨w2.heap.size, 4, none⟩ (.int .i64 1)).setCell ⟨w2.heap.size, 5, none⟩ (.int .i64 1) = wA at BA FA
  obtain ⟨-, -, -, d3, d4, d5, -⟩ := cells11 HBc.out
  have z3 := frozen_of HBc.out 3
  have z4 := frozen_of HBc.out 4
  have z5 := frozen_of HBc.out 5
  obtain ⟨e0, e1, e2, e3, e4, e5, e6, e7, e8, e9, e10⟩ := cells11 BA
  have F2A : Fr (fun _ => False) w2 wA := HFc.out.trans FA (fun i hi e => by omega)
  have HFA := Lib.hid (HF2.out.step F2A nop)
  have hN2 : c.N = 2 := by rw [HMK.out.cf.N]; rfl
  have hp1 : ∀ k, k < 2 → (rs.getD k ERl.z).p = 1 := fun k hk => by
    have h := (HMK.out.md.hrs.of_ k hk).p
    rw [h]
    rcases (by omega : k = 0 ∨ k = 1) with rfl | rfl <;> rfl
  have HC2 : ∃ c2 : Cf, (c2.N = 2 ∧ c2.b0 = 1 ∧ c2.b1 = 1 ∧ c2.b2 = 1 ∧ c2.t = c.t) ∧ Calls Try.prog 13 #[.agg #[.slice c.s1 c.s2 c.s3, .slice c.rv c.N c.rk, .slice c.tv c.t c.tk, .int .i64 1, .int .i64 1, .int .i64 1, .int .i64 c.dr, .int .i64 c.pa, .int .i64 c.of_, .bool c.br, .int .i64 c.lg]] wA (IkNPost wA c2 rs) :=
    ⟨⟨c.s1, c.s2, c.s3, c.rv, c.N, c.rk, c.tv, c.t, c.tk, 1, 1, 1, c.dr, c.pa, c.of_, c.br, c.lg⟩, ⟨hN2, rfl, rfl, rfl, rfl⟩, iknew wA _ rs (HMK.out.rd.fr F2A (fun _ _ x => x)) HMK.out.pr (by have := HMK.out.N8; show c.N ≤ 100; omega)⟩
  obtain ⟨c2, hc2, hcall⟩ := HC2
  have HCALL := Lib.hid hcall
  have HC2 := Lib.hid hc2
  have HP1 := Lib.hid hp1
  have HT := Lib.hid HMK.out.t6
  have E1 : ofr c2 rs ⟨[], List.replicate c2.N false, 0, 0⟩ 3 0 true = (true, ⟨[(1, 0, true, 3)], [true, false], 0, 0⟩) := by
    unfold ofr
    obtain ⟨h1, h2, h3, h4, -⟩ := hc2
    rw [h1, h2, h3, h4, show (0 : Int).toNat = 0 from rfl, hp1 0 (by omega), if_neg (by decide)]
    rfl
  have E2 : ofr c2 rs ⟨[(1, 0, true, 3)], [true, false], 0, 0⟩ 3 1 true = (false, ⟨[(1, 0, true, 3)], [true, false], 3, 1⟩) := by
    unfold ofr
    obtain ⟨h1, h2, h3, h4, -⟩ := hc2
    rw [h1, h2, h3, h4, show (1 : Int).toNat = 1 from rfl, hp1 1 (by omega), if_neg (by decide)]
    rfl
  have E3 : ovr c2 ⟨[(1, 0, true, 3)], [true, false], 3, 1⟩ 3 = true := by
    unfold ovr
    refine decide_eq_true ⟨by decide, ?_⟩
    rw [hc2.2.2.2.2]
    have := HT.out
    show sn 3 3 < _
    have : sn 3 3 = 0 := by decide
    omega
  have HE1 := Lib.hid E1
  have HE2 := Lib.hid E2
  have HE3 := Lib.hid E3
  clear BA FA F2A hN2 hp1 hc2 hcall E1 E2 E3
  go_wp2_with fail
  refine HCALL.out.mono ?_
  rintro e w3 ⟨ib, q, qs, tbk, rfl, I3, F3, hup⟩
  have HI3 := Lib.hid I3
  have HF3 := Lib.hid (HFA.out.step F3 nop)
  have HUP : Hid (∀ k, inI ib q qs tbk k → w.heap.size ≤ k) := Lib.hid (fun k hk => by have := hup k hk; have := HFA.out.size; omega)
  clear I3 F3 hup d3 d4 d5 z3 z4 z5 e0 e1 e2 e3 e4 e5 e6 e7 e8 e9 e10 hwA
  have HO1 := Lib.hid (ikoffer w3 ib q qs tbk c2 rs _ HI3.out 3 0 true (by simp))
  rw [HE1.out] at HO1
  go_wp2_with fail
  refine HO1.out.mono ?_
  rintro e w4 ⟨rfl, I4, F4⟩
  have HI4 := Lib.hid I4
  have HF4 := Lib.hid (HF3.out.step F4 HUP.out)
  clear I4 F4
  have HO2 := Lib.hid (ikoffer w4 ib q qs tbk c2 rs _ HI4.out 3 1 true (by simp))
  rw [HE2.out] at HO2
  go_wp2_with fail
  refine HO2.out.mono ?_
  rintro e w5 ⟨rfl, I5, F5⟩
  have HI5 := Lib.hid I5
  have HF5 := Lib.hid (HF4.out.step F5 HUP.out)
  clear I5 F5
  have HO3 := Lib.hid (ikover w5 ib q qs tbk c2 rs _ HI5.out 3 (by unfold BigI; omega) (by unfold BigI; simp))
  rw [HE3.out] at HO3
  go_wp2_with fail
  refine HO3.out.mono ?_
  rintro e w6 ⟨rfl, F6⟩
  have HI6 := Lib.hid (HI5.out.calm F6)
  have HF6 := Lib.hid (HF5.out.step F6 nop)
  clear F6
  have HO4 := Lib.hid (ikrefused w6 ib q qs tbk c2 rs _ HI6.out)
  go_wp2_with fail
  refine HO4.out.mono ?_
  rintro e w7 ⟨rfl, F7⟩
  have HF7 := Lib.hid (HF6.out.step F7 nop)
  clear F7
  go_wp2_with fail
  go_ret
  exact ⟨rfl, HF7.out⟩

end Go.Proofs.Ytahddolplklopaa
