/- Ip. -/
import Derived.Test.YtahddolplklopaaChecked
import Derived.WalkKit
import Derived.Laws.IdiomCopy
import Derived.Deep.QuietTactic
import Derived.BigQuiet
import Derived.Lib.Hide
import Derived.OpenShut
import Derived.StillTailTactics
import Derived.Deep.RegionWith
import Derived.Deep.RegionLaw
import Derived.Deep.Slices
import Derived.Deep.RegionHeld3
import Derived.OwnWalk
import Derived.Deep.DeepCutAuto
import Derived.Deep.CutRange
import Derived.Test.YtahddolplklopaaBase
import Derived.Test.YtahddolplklopaaCalm
import Derived.Test.YtahddolplklopaaCalmT
import Derived.Test.YtahddolplklopaaCel
import Derived.Test.YtahddolplklopaaApp
import Derived.Test.YtahddolplklopaaRE
import Derived.Test.YtahddolplklopaaREB
import Derived.Test.YtahddolplklopaaREC
import Derived.Test.YtahddolplklopaaREA
import Derived.Test.YtahddolplklopaaBq
import Derived.Test.YtahddolplklopaaBp
import Derived.Test.YtahddolplklopaaBx
import Derived.Test.YtahddolplklopaaBr
import Derived.Test.YtahddolplklopaaBk0
import Derived.Test.YtahddolplklopaaBt
import Derived.Test.YtahddolplklopaaBk
import Derived.Test.YtahddolplklopaaBu
import Derived.Test.YtahddolplklopaaBv
import Derived.Maps.AppendAt
import Derived.Test.YtahddolplklopaaMkD
import Derived.Test.YtahddolplklopaaMkE
import Derived.Test.YtahddolplklopaaClk
import Derived.Test.YtahddolplklopaaIk
import Derived.Test.YtahddolplklopaaMkM
import Derived.Test.YtahddolplklopaaIl
import Derived.BigRegion
import Derived.Deep.CutBlock
import Derived.Test.YtahddolplklopaaEqa
import Derived.Test.YtahddolplklopaaIlw
import Derived.Test.YtahddolplklopaaIwp
import Derived.Test.YtahddolplklopaaClkR
import Derived.Test.YtahddolplklopaaRik
namespace Go.Proofs.Ytahddolplklopaa
open Go.RowKit
set_option linter.unusedVariables false
set_option linter.unusedSimpArgs false

/-! ### Both intakes -/
theorem Bst.uniq {ms : List It} {n b b2 : Nat} (h : Bst ms n b) (h2 : Bst ms n b2) : b = b2 := by
  rcases Nat.lt_trichotomy b b2 with e | e | e
  · have h3 := (h2.2 b h.1).2 e
    have h4 := (h.2 b2 h2.1).1
    omega
  · exact e
  · have h3 := (h.2 b2 h2.1).2 e
    have h4 := (h2.2 b h.1).1
    omega
theorem tk_uniq {ms m1 m2 : List It} {p x1 x3 q y1 y3 : Int} {x2 y2 : Bool} (h : tkOut ms m1 p x1 x2 x3 true) (h2 : tkOut ms m2 q y1 y2 y3 true) : (x1, x2, x3) = (y1, y2, y3) ∧ m1 = m2 := by
  rcases h with ⟨_, _, _, _, _, _, h7⟩ | ⟨_, b, hB, hx, hms⟩
  · simp at h7
  · rcases h2 with ⟨_, _, _, _, _, _, h7⟩ | ⟨_, b2, hB2, hx2, hms2⟩
    · simp at h7
    · obtain rfl := hB.uniq hB2
      rw [hx] at hx2
      refine ⟨(Prod.mk.inj hx2).2, by rw [hms, hms2]⟩
theorem Drn_uniq : ∀ {out out2 : List Ev} {ms m1 m2 : List It}, Drn out ms m1 → Drn out2 ms m2 → out.length = out2.length → out = out2 ∧ m1 = m2
  | [], [], ms, m1, m2, h, h2, _ => by cases h; cases h2; exact ⟨rfl, rfl⟩
  | [], y :: o, _, _, _, _, _, e => by simp at e
  | x :: o, [], _, _, _, _, _, e => by simp at e
  | x :: o, y :: o2, ms, m1, m2, ⟨a, p, h1, h2⟩, ⟨a2, p2, h3, h4⟩, e => by
    obtain ⟨e1, rfl⟩ := tk_uniq h1 h3
    obtain ⟨e2, e3⟩ := Drn_uniq h2 h4 (by simpa using e)
    exact ⟨by rw [show x = y from e1, e2], e3⟩
theorem Drn_same {out out2 : List Ev} {ms m1 m2 : List It} {dr : Int} (hd : 1 ≤ dr) (h : Drn out ms m1) (h1 : (out.length : Int) ≤ dr ∨ out = []) (hn : (out.length : Int) < dr → m1 = []) (h2 : Drn out2 ms m2) (h3 : (out2.length : Int) ≤ dr ∨ out2 = []) (hn2 : (out2.length : Int) < dr → m2 = []) : out = out2 ∧ m1 = m2 := by
  refine Drn_uniq h h2 ?_
  have e1 := Drn_len h
  have e2 := Drn_len h2
  have a1 : (out.length : Int) ≤ dr := by rcases h1 with h | h; exact h; rw [h]; simp; omega
  have a2 : (out2.length : Int) ≤ dr := by rcases h3 with h | h; exact h; rw [h]; simp; omega
  by_cases c1 : (out.length : Int) < dr
  · rw [hn c1] at e1
    simp only [List.length_nil] at e1
    by_cases c2 : (out2.length : Int) < dr
    · rw [hn2 c2] at e2; simp only [List.length_nil] at e2; omega
    · omega
  · by_cases c2 : (out2.length : Int) < dr
    · rw [hn2 c2] at e2; simp only [List.length_nil] at e2; omega
    · omega
structure PlC (W : World) (cb ib q : Nat) (qs : Nat → Nat × Nat) (tb nb t2 B0 : Nat) : Prop where
  i : ∀ k, inI ib q qs tb k → k < B0 ∧ k ≠ nb ∧ k ≠ t2 ∧ W.heap.size ≤ k ∧ k ≠ cb
  n : nb ≠ cb ∧ t2 ≠ cb ∧ W.heap.size ≤ nb ∧ W.heap.size ≤ t2
structure PlS (W : World) (cb : Nat) (c : Cf) (ib q : Nat) (qs : Nat → Nat × Nat) (tb nb t2 B0 : Nat) (rs : List Rl) (M : Md) (w : World) : Prop where
  lw : Lw W cb c ib q qs tb rs M w
  rk : ∃ A k, Rk w nb t2 B0 c rs A k M
theorem PlS.calm {W w w' : World} {cb : Nat} {c : Cf} {ib q tb nb t2 B0 : Nat} {qs : Nat → Nat × Nat} {rs : List Rl} {M : Md} (h : PlS W cb c ib q qs tb nb t2 B0 rs M w) (hf : Fr (fun _ => False) w w') : PlS W cb c ib q qs tb nb t2 B0 rs M w' := by
  obtain ⟨A, k, hk⟩ := h.rk
  exact ⟨h.lw.calm hf, A, k, hk.calm hf⟩
section
variable {W w w' : World} {cb : Nat} {c : Cf} {ib q tb nb t2 B0 : Nat} {qs : Nat → Nat × Nat} {rs : List Rl} {M M' : Md}
/-- The reference's part over what the program's call turns, and the other way round. -/
theorem rk_over (hc : PlC W cb ib q qs tb nb t2 B0) (hi : Ik w ib q qs tb c rs M') (h : ∃ A k, Rk w nb t2 B0 c rs A k M) (hf : Fr (inI ib q qs tb) w w') : ∃ A k, Rk w' nb t2 B0 c rs A k M := by
  obtain ⟨A, k, h⟩ := h
  exact ⟨A, k, h.fr hf (fun i hi2 => ⟨(hc.i i hi2).1, (hc.i i hi2).2.1, (hc.i i hi2).2.2.1, fun h0 ad ha e => hi.nr ad ha h0 (by rw [e]; exact hi2)⟩)⟩
theorem ik_over (hc : PlC W cb ib q qs tb nb t2 B0) (hi : Ik w ib q qs tb c rs M) (h : ∃ A k, Rk w nb t2 B0 c rs A k M') (hf : Fr (fun i => i = nb ∨ i = t2) w w') : Ik w' ib q qs tb c rs M := by
  obtain ⟨A, k, h⟩ := h
  refine hi.fr hf (fun i e => ⟨fun hi2 => ?_, fun h0 ad ha e2 => ?_⟩)
  · rcases e with e | e
    · exact (hc.i i hi2).2.1 e
    · exact (hc.i i hi2).2.2.1 e
  · rcases e with e | e
    · exact (h.nr ad ha h0).1 (e2.trans e)
    · exact (h.nr ad ha h0).2 (e2.trans e)
theorem PlC.low (hc : PlC W cb ib q qs tb nb t2 B0) : ∀ i, (i = nb ∨ i = t2) → W.heap.size ≤ i := fun i e => by
  rcases e with e | e
  · rw [e]; exact hc.n.2.2.1
  · rw [e]; exact hc.n.2.2.2
end
theorem ofr_last (c : Cf) (rs : List Rl) (M : Md) (now k : Int) (on : Bool) : (ofr c rs M now k on).2.last = M.last ∨ (ofr c rs M now k on).2.last = now := by
  unfold ofr
  split
  · exact .inl rfl
  · split
    · exact .inl rfl
    · exact .inr rfl
theorem neq_arr3 (w : World) (a b c : Int) : (Op.equalIn 10000 32 (.agg #[.int .i64 a, .int .i64 b, .int .i64 c]) (.agg #[.int .i64 a, .int .i64 b, .int .i64 c])).run Try.prog w = .ok true w := by
  rw [eq_arr3]; simp
attribute [local go_sem] neq_arr3
set_option maxRecDepth 100000 in
set_option maxHeartbeats 40000000 in
theorem IntakePlays_walk (A0 A1 : Option Addr) (n0 k0 n1 k1 : Nat) (gb gd gp go_ : Int) (gk : Bool) (gl : Int) (ls : List Ln) (ss : List (List Int)) (sl : List Int) (A : Option Addr) (n cap : Nat) (zs : List Ac) (W : World) (hd : Dft W A0 n0 ls ss A1 n1 sl) (hb : byte gb ∧ byte gd ∧ byte gp ∧ byte go_ ∧ byte gl) (hr : Reads EAc W A n zs) (hw : ∀ y, y ∈ zs → okAc y) (hcap : n ≤ cap ∧ cap ≤ maxLen) :
    Calls Try.prog 7 #[.agg #[.slice A0 n0 k0, .slice A1 n1 k1, .int .u8 gb, .int .u8 gd, .int .u8 gp, .int .u8 go_, .bool gk, .int .u8 gl], .slice A n cap] W fun e w' => e = .returned (.bool true) ∧ Below W.heap.size W w' := by
  have BD := alloc_is (w := W) (n := W.heap.size) (.cells #[.slice A0 n0 k0, .slice A1 n1 k1, .int .u8 gb, .int .u8 gd, .int .u8 gp, .int .u8 go_, .bool gk, .int .u8 gl] 25) rfl
  have F1 := (Fr.refl (fun _ => False) W).alloc (.cells #[.slice A0 n0 k0, .slice A1 n1 k1, .int .u8 gb, .int .u8 gd, .int .u8 gp, .int .u8 go_, .bool gk, .int .u8 gl] 25)
  generalize hw1 : W.alloc (.cells #[.slice A0 n0 k0, .slice A1 n1 k1, .int .u8 gb, .int .u8 gd, .int .u8 gp, .int .u8 go_, .bool gk, .int .u8 gl] 25) = w1 at BD F1
  have HBD := Lib.hid BD
  have HF1 := Lib.hid F1
  have HD := Lib.hid (hd.calm F1)
  have HBY := Lib.hid hb
  clear BD F1 hd hb
  by_cases hlim : n ≤ 100
  · have hlim' : ¬ (100 : Int) < (n : Int) := by omega
    go_enter Try.func7, Try.ntmps7
    go_wp2_with fail
    refine (refuses_any _).mono ?_
    rintro e w2 ⟨rfl, F_w2⟩
    have G_w2 := Lib.hid (F_w2)
    clear F_w2
    clear hw1
    obtain ⟨q0, q1, q2, q3, q4, q5, q6, q7⟩ := cells8 (G_w2.out.at_ HBD.out (fun x => x))
    have HSH := Lib.hid (short_any w2 A0 A1 n0 k0 n1 k1 gb gd gp go_ gk gl ls (HD.out.rd.fr G_w2.out (fun _ _ x => x)))
    go_wp2_with fail
    refine HSH.out.mono ?_
    rintro e w3 ⟨b, rfl, F3⟩
    have G_w3 := Lib.hid (G_w2.out.step F3 nop)
    clear F3 q0 q1 q2 q3 q4 q5 q6 q7
    cases b
    · go_wp2_with fail
      refine (refuses_any _).mono ?_
      rintro e w4 ⟨rfl, F_w4⟩
      have G_w4 := Lib.hid (G_w3.out.step F_w4 nop)
      clear F_w4
      go_wp2_with fail
      go_ret
      exact ⟨rfl, (HF1.out.step G_w4.out nop).below⟩
    · obtain ⟨q0, q1, q2, q3, q4, q5, q6, q7⟩ := cells8 (G_w3.out.at_ HBD.out (fun x => x))
      have HM := Lib.hid (Make_c w3 A0 A1 n0 k0 n1 k1 gb gd gp go_ gk gl ls ss sl (HD.out.calm G_w3.out) HBY.out)
      go_wp2_with fail
      refine HM.out.mono ?_
      rintro e w4 ⟨c, sb, rs, vs, tbl, rfl, mk⟩
      clear q0 q1 q2 q3 q4 q5 q6 q7
      have G_w4 := Lib.hid (G_w3.out.step mk.fr nop)
      have Bz5 : (w4.alloc (.cells #[.slice none 0 0, .slice none 0 0, .slice none 0 0, .int .i64 0, .int .i64 0, .int .i64 0, .int .i64 0, .int .i64 0, .int .i64 0, .bool false, .int .i64 0] 34)).heap[w4.heap.size]? = some (.cells #[.slice none 0 0, .slice none 0 0, .slice none 0 0, .int .i64 0, .int .i64 0, .int .i64 0, .int .i64 0, .int .i64 0, .int .i64 0, .bool false, .int .i64 0] 34 (0, 0)) := alloc_is _ rfl
      have Fz5 := (Fr.refl (fun _ => False) w4).alloc (.cells #[.slice none 0 0, .slice none 0 0, .slice none 0 0, .int .i64 0, .int .i64 0, .int .i64 0, .int .i64 0, .int .i64 0, .int .i64 0, .bool false, .int .i64 0] 34)
      generalize hwm5 : w4.alloc (.cells #[.slice none 0 0, .slice none 0 0, .slice none 0 0, .int .i64 0, .int .i64 0, .int .i64 0, .int .i64 0, .int .i64 0, .int .i64 0, .bool false, .int .i64 0] 34) = wm5 at Bz5 Fz5
      obtain ⟨c5_0, c5_1, c5_2, c5_3, c5_4, c5_5, c5_6, c5_7, c5_8, c5_9, c5_10⟩ := cells11 Bz5
      have z5_0 := frozen_of Bz5 0
      have z5_1 := frozen_of Bz5 1
      have z5_2 := frozen_of Bz5 2
      have z5_3 := frozen_of Bz5 3
      have z5_4 := frozen_of Bz5 4
      have z5_5 := frozen_of Bz5 5
      have z5_6 := frozen_of Bz5 6
      have z5_7 := frozen_of Bz5 7
      have z5_8 := frozen_of Bz5 8
      have z5_9 := frozen_of Bz5 9
      have z5_10 := frozen_of Bz5 10
      have B5 := put11y (y0 := .slice c.s1 c.s2 c.s3) (y1 := .slice c.rv c.N c.rk) (y2 := .slice c.tv c.t c.tk) (y3 := .int .i64 c.b0) (y4 := .int .i64 c.b1) (y5 := .int .i64 c.b2) (y6 := .int .i64 c.dr) (y7 := .int .i64 c.pa) (y8 := .int .i64 c.of_) (y9 := .bool c.br) (y10 := .int .i64 c.lg) Bz5
      have Fo5 := (Fr.refl (fun i => i = w4.heap.size) wm5).put11 (b := w4.heap.size) (fun _ => rfl) (.slice c.s1 c.s2 c.s3) (.slice c.rv c.N c.rk) (.slice c.tv c.t c.tk) (.int .i64 c.b0) (.int .i64 c.b1) (.int .i64 c.b2) (.int .i64 c.dr) (.int .i64 c.pa) (.int .i64 c.of_) (.bool c.br) (.int .i64 c.lg)
      generalize hwo5 : (((((((((((wm5.setCell ⟨w4.heap.size, 0, none⟩ (.slice c.s1 c.s2 c.s3)).setCell ⟨w4.heap.size, 1, none⟩ (.slice c.rv c.N c.rk)).setCell ⟨w4.heap.size, 2, none⟩ (.slice c.tv c.t c.tk)).setCell ⟨w4.heap.size, 3, none⟩ (.int .i64 c.b0)).setCell ⟨w4.heap.size, 4, none⟩ (.int .i64 c.b1)).setCell ⟨w4.heap.size, 5, none⟩ (.int .i64 c.b2)).setCell ⟨w4.heap.size, 6, none⟩ (.int .i64 c.dr)).setCell ⟨w4.heap.size, 7, none⟩ (.int .i64 c.pa)).setCell ⟨w4.heap.size, 8, none⟩ (.int .i64 c.of_)).setCell ⟨w4.heap.size, 9, none⟩ (.bool c.br)).setCell ⟨w4.heap.size, 10, none⟩ (.int .i64 c.lg)) = wo5 at B5 Fo5
      have FF5 := Fz5.trans Fo5 (fun i hi (h : i = w4.heap.size) => by omega)
      obtain ⟨d5_0, d5_1, d5_2, d5_3, d5_4, d5_5, d5_6, d5_7, d5_8, d5_9, d5_10⟩ := cells11 B5
      have HBC := Lib.hid B5
      have HFC := Lib.hid FF5
      have HMK := Lib.hid mk
      clear B5 FF5 mk
      go_upto_region 4 with (fail)
      clear c5_0 z5_0 c5_1 z5_1 c5_2 z5_2 c5_3 z5_3 c5_4 z5_4 c5_5 z5_5 c5_6 z5_6 c5_7 z5_7 c5_8 z5_8 c5_9 z5_9 c5_10 z5_10 d5_0 d5_1 d5_2 d5_3 d5_4 d5_5 d5_6 d5_7 d5_8 d5_9 d5_10 Bz5 Fz5 Fo5 hwm5 hwo5
      have HL := Lib.hid hr.1
      have HRD := Lib.hid hr
      have HWA := Lib.hid hw
      clear hr hw
      obtain ⟨cb, hcb⟩ : ∃ cb, w4.heap.size = cb := ⟨_, rfl⟩
      rw [hcb] at HBC ⊢
      have HCB : Hid (W.heap.size ≤ cb ∧ cb < wo5.heap.size) := Lib.hid ⟨by have := (HF1.out.step G_w4.out nop).size; omega, lt_of HBC.out⟩
      have HWO := Lib.hid ((HF1.out.step G_w4.out nop).step HFC.out nop)
      have HBB : Hid (c.b0 ≤ 3 ∧ c.b1 ≤ 3 ∧ c.b2 ≤ 4) := Lib.hid (by
        rw [HMK.out.cf.b0, HMK.out.cf.b1, HMK.out.cf.b2]; omega)
      have HDR : Hid (1 ≤ c.dr ∧ c.dr ≤ 1000) := Lib.hid (by
        rw [HMK.out.dr]; unfold mkDr
        have h1 : entries tbl / c.t ≤ 8 := by
          have h2 := entries_le tbl (M := 8) (fun i hi => Nat.le_trans (pig _ _ (HMK.out.md.htb.ok i (by have := HMK.out.md.htb.tl; omega))) (nRul_rng n0).2) tbl.length (Nat.le_refl _)
          rw [List.take_of_length_le (Nat.le_refl _), HMK.out.md.htb.tl] at h2
          exact Nat.div_le_of_le_mul (by rw [Nat.mul_comm]; exact h2)
        have h3 := HBY.out.2.1
        unfold byte at h3
        generalize entries tbl / c.t = EN at h1 ⊢
        omega)
      have HRDr := Lib.hid (HMK.out.rd.fr HFC.out (fun _ _ x => x))
      have HN8 := Lib.hid HMK.out.N8
      have HPR := Lib.hid HMK.out.pr
      have HS : Hid (∀ w', Fr (fun _ => False) wo5 w' → w'.cell? ⟨cb, 0, none⟩ = some (.slice c.s1 c.s2 c.s3) ∧ w'.cell? ⟨cb, 1, none⟩ = some (.slice c.rv c.N c.rk) ∧ w'.cell? ⟨cb, 2, none⟩ = some (.slice c.tv c.t c.tk) ∧ w'.cell? ⟨cb, 3, none⟩ = some (.int .i64 c.b0) ∧ w'.cell? ⟨cb, 4, none⟩ = some (.int .i64 c.b1) ∧ w'.cell? ⟨cb, 5, none⟩ = some (.int .i64 c.b2) ∧ w'.cell? ⟨cb, 6, none⟩ = some (.int .i64 c.dr) ∧ w'.cell? ⟨cb, 7, none⟩ = some (.int .i64 c.pa) ∧ w'.cell? ⟨cb, 8, none⟩ = some (.int .i64 c.of_) ∧ w'.cell? ⟨cb, 9, none⟩ = some (.bool c.br) ∧ w'.cell? ⟨cb, 10, none⟩ = some (.int .i64 c.lg)) := Lib.hid (fun w' h => cells11 (h.at_ HBC.out (fun x => x)))
      have HN1 : Hid (∀ w', Fr (fun _ => False) wo5 w' → Calls Try.prog 13 #[.agg #[.slice c.s1 c.s2 c.s3, .slice c.rv c.N c.rk, .slice c.tv c.t c.tk, .int .i64 c.b0, .int .i64 c.b1, .int .i64 c.b2, .int .i64 c.dr, .int .i64 c.pa, .int .i64 c.of_, .bool c.br, .int .i64 c.lg]] w' fun e w'' => ∃ ib q qs tb, e = .returned (.pointer (some ⟨ib, 0, none⟩)) ∧ Ik w'' ib q qs tb c rs ⟨[], List.replicate c.N false, 0, 0⟩ ∧ Fr (fun _ => False) w' w'' ∧ Fr (fun _ => False) wo5 w'' ∧ ∀ k, inI ib q qs tb k → w'.heap.size ≤ k) := Lib.hid (fun w' h => (iknew w' c rs (HRDr.out.fr h (fun _ _ x => x)) HPR.out (by have := HN8.out; omega)).mono fun e w'' ⟨ib, q, qs, tb, h1, h2, h3, h4⟩ => ⟨ib, q, qs, tb, h1, h2, h3, h.step h3 nop, h4⟩)
      have HN2 : Hid (∀ w', Fr (fun _ => False) wo5 w' → Calls Try.prog 19 #[.agg #[.slice c.s1 c.s2 c.s3, .slice c.rv c.N c.rk, .slice c.tv c.t c.tk, .int .i64 c.b0, .int .i64 c.b1, .int .i64 c.b2, .int .i64 c.dr, .int .i64 c.pa, .int .i64 c.of_, .bool c.br, .int .i64 c.lg]] w' fun e w'' => ∃ nb t2, e = .returned (.pointer (some ⟨nb, 0, none⟩)) ∧ Rk w'' nb t2 w''.heap.size c rs none 0 ⟨[], List.replicate c.N false, 0, 0⟩ ∧ Fr (fun _ => False) w' w'' ∧ Fr (fun _ => False) wo5 w'' ∧ w'.heap.size ≤ nb ∧ w'.heap.size ≤ t2) := Lib.hid (fun w' h => (rknew w' c rs (HRDr.out.fr h (fun _ _ x => x)) HPR.out (by have := HN8.out; omega)).mono fun e w'' ⟨nb, t2, h1, h2, h3, h4, h5⟩ => ⟨nb, t2, h1, h2, h3, h.step h3 nop, h4, h5⟩)
      have hF0 : Fr (fun _ => False) wo5 wo5.drew := (Fr.refl _ _).drew
      clear HM HSH hcb
      go_cut [6, 7] (fun s6 s7 wx => ∃ ib q qs tb nb t2 B0, s6 = .pointer (some ⟨ib, 0, none⟩) ∧ s7 = .pointer (some ⟨nb, 0, none⟩) ∧ PlS W cb c ib q qs tb nb t2 B0 rs ⟨[], List.replicate c.N false, 0, 0⟩ wx ∧ PlC W cb ib q qs tb nb t2 B0 ∧ LwC W cb c ib q qs tb)
      case first =>
        go_region_held3 (fun w' => w'.cell? ⟨cb, 0, none⟩ = some (.slice c.s1 c.s2 c.s3) ∧ w'.cell? ⟨cb, 1, none⟩ = some (.slice c.rv c.N c.rk) ∧ w'.cell? ⟨cb, 2, none⟩ = some (.slice c.tv c.t c.tk) ∧ w'.cell? ⟨cb, 3, none⟩ = some (.int .i64 c.b0) ∧ w'.cell? ⟨cb, 4, none⟩ = some (.int .i64 c.b1) ∧ w'.cell? ⟨cb, 5, none⟩ = some (.int .i64 c.b2) ∧ w'.cell? ⟨cb, 6, none⟩ = some (.int .i64 c.dr) ∧ w'.cell? ⟨cb, 7, none⟩ = some (.int .i64 c.pa) ∧ w'.cell? ⟨cb, 8, none⟩ = some (.int .i64 c.of_) ∧ w'.cell? ⟨cb, 9, none⟩ = some (.bool c.br) ∧ w'.cell? ⟨cb, 10, none⟩ = some (.int .i64 c.lg))
          (exact HS.out _ (by assumption))
          (first
            | (go_at_call 13; refine (HN1.out _ (by assumption)).mono ?_; rintro e wA ⟨ib, q, qs, tb, rfl, IA, FA0, FA, hupA⟩)
            | (go_at_call 19; refine (HN2.out _ (by assumption)).mono ?_; rintro e wB ⟨nb, t2, rfl, IB, FB0, FB, hupB, hupC⟩))
        all_goals
          have HREL : Hid (PlS W cb c ib q qs tb nb t2 wB.heap.size rs ⟨[], List.replicate c.N false, 0, 0⟩ wB ∧ PlC W cb ib q qs tb nb t2 wB.heap.size ∧ LwC W cb c ib q qs tb) := Lib.hid (by
            have h1 : ∀ k, inI ib q qs tb k → wo5.heap.size ≤ k := hupA
            have h2 := HCB.out
            have h3 := FB0.size
            have h4 := FA.size
            have h5 := HWO.out.size
            refine ⟨⟨⟨FB.at_ HBC.out (fun x => x), IA.calm FB0, HWO.out.step FB nop⟩, none, 0, IB⟩, ⟨fun k hk => ?_, by omega, by omega, by omega, by omega⟩, ⟨fun hk => by have := h1 _ hk; omega, fun k hk => by have := h1 _ hk; omega, HMK.out.N8, HMK.out.t6, h2.1⟩⟩
            have h6 := h1 k hk
            have h7 := IA.in_ hk
            exact ⟨by omega, by omega, by omega, by omega, by omega⟩)
          clear IA FA0 FA hupA IB FB0 FB hupB hupC
          go_wp2_with fail
          go_meet
          case rel => exact ⟨ib, q, qs, tb, nb, t2, _, rfl, rfl, HREL.out.1, HREL.out.2.1, HREL.out.2.2⟩
      case rest =>
        obtain ⟨ib, q, qs, tb, nb, t2, B0, rfl, rfl, hS, hC, hLC⟩ := hcut
        have HS0 := Lib.hid hS
        have HPC := Lib.hid hC
        have HLC := Lib.hid hLC
        clear hS hC hLC HN1 HN2 HS hF0
        generalize wc = wz at HS0 ⊢
        go_wp2_with fail
        go_loopw [8, 9, 10] (fun s8 v s10 wr => ∃ (j : Nat) (now : Int) (M : Md), s8 = .int .i64 now ∧ v = .int .i64 j ∧ j ≤ n ∧ 1 ≤ now ∧ now ≤ 1 + 3 * (j : Int) ∧ PlS W cb c ib q qs tb nb t2 B0 rs M wr ∧ 0 ≤ M.ref ∧ M.ref ≤ (j : Int) ∧ 0 ≤ M.last ∧ M.last ≤ now) (fun _ v _ _ => n - (intOf v).toNat)
        case atStart => exact ⟨0, 1, _, rfl, rfl, Nat.zero_le _, by omega, by omega, HS0.out, by simp, by simp, by simp, by simp⟩
        case round =>
          clear HS0
          obtain ⟨j, now0, M, rfl, rfl, hj, hn0_, hn1_, hS, hr0, hr1, hla0, hla1⟩ := hrel
          have HSj := Lib.hid hS
          clear hS
          by_cases hlt : j < n
          · have hlt' : (j : Int) < (n : Int) := by omega
            have rz := HRD.out.fr HSj.out.lw.fr (fun _ _ x => x)
            obtain ⟨zb, zo, rfl, hzb⟩ := rz.plain (by omega)
            obtain ⟨y, hy⟩ : ∃ y, zs.getD j EAc.z = y := ⟨_, rfl⟩
            obtain ⟨y0, y1, y2, y3⟩ := y
            have hok := ac_ok HL.out HWA.out hlt
            rw [hy] at hok
            have ha0 : 0 ≤ y0 := hok.1.1
            have ha1 : y0 ≤ 255 := hok.1.2
            have hb1 : 0 ≤ y1 := hok.2.1.1
            have hb2 : y1 ≤ 255 := hok.2.1.2
            have hd1 : 0 ≤ y2 := hok.2.2.1.1
            have hd2 : y2 ≤ 255 := hok.2.2.1.2
            obtain ⟨l0, l1, l2, l3⟩ := rz.ac hlt hy
            have HYY := Lib.hid hy
            have hj100 : (j : Int) ≤ 100 := by omega
            clear rz hy hok
            go_upto_region 10 with (fail)
            obtain ⟨now, hnow⟩ : ∃ x, now0 + y2 % 4 = x := ⟨_, rfl⟩
            have HNOW : Hid (1 ≤ now ∧ now ≤ 1 + 3 * ((j : Int) + 1) ∧ M.last ≤ now) := Lib.hid (by omega)
            rw [hnow]
            clear hnow
            have hnw1 := HNOW.out.1
            have hnw2 : now ≤ 400 := by have := HNOW.out.2.1; omega
            have HB1 : Hid (BigI now) := Lib.hid (by unfold BigI; omega)
            have HB3 : Hid (BigI (now + 3)) := Lib.hid (by unfold BigI; omega)
            have HRM : Hid (0 ≤ M.ref ∧ M.ref ≤ (j : Int) ∧ 0 ≤ M.last) := Lib.hid ⟨hr0, hr1, hla0⟩
            clear hn0_ hn1_ hla0 hla1 hr0 hr1
            go_upto_if 51 with (fail)
            go_cut [10] (fun s10 wx => ∃ M1 : Md, PlS W cb c ib q qs tb nb t2 B0 rs M1 wx ∧ 0 ≤ M1.ref ∧ M1.ref ≤ (j : Int) + 1 ∧ 0 ≤ M1.last ∧ M1.last ≤ now)
            case first =>
              by_cases h3 : y0 % 4 = 3
              · have h3' : (y0 % 4 == 3) = true := by simp [h3]
                have HML : Hid (M.ms.length ≤ 10) := Lib.hid (HSj.out.lw.len10 HBB.out)
                clear h3 l0 l1 l2 l3
                have HDN := Lib.hid (ikdrain wr ib q qs tb c rs M HSj.out.lw.ik HDR.out.2)
                go_wp2_with fail
                refine HDN.out.mono ?_
                rintro e wA ⟨out, ms', A1, k1, rfl, Ow, hdn, hle, hnil, Ie, Fe⟩
                have HLe : Hid (Lw W cb c ib q qs tb rs ⟨ms', M.told, M.last, M.ref⟩ wA) := Lib.hid (HSj.out.lw.step HLC.out Fe Ie)
                have HRe := Lib.hid (rk_over HPC.out HSj.out.lw.ik HSj.out.rk Fe)
                have HDNE := Lib.hid (And.intro hdn (And.intro hle hnil))
                have HOwn := Lib.hid Ow
                clear Ow hdn hle hnil Ie Fe
                obtain ⟨A2, k2, hrk⟩ := HRe.out
                have HDN2 := Lib.hid (rkdrain wA nb t2 B0 c rs A2 k2 M hrk HDR.out.2 (by have := HML.out; omega))
                clear hrk
                go_wp2_with fail
                refine HDN2.out.mono ?_
                rintro e wB ⟨out2, ms2, A3, k3, rfl, Ow2, hdn2, hle2, hnil2, hrk2, Fe2⟩
                obtain ⟨hd1_, hd2_, hd3_⟩ := HDNE.out
                obtain ⟨e1, e2⟩ := Drn_same HDR.out.1 hd1_ hd2_ hd3_ hdn2 hle2 hnil2
                subst e1
                subst e2
                clear hd1_ hd2_ hd3_ hdn2 hnil2
                have HLEN : Hid (out.length ≤ 1000) := Lib.hid (by
                  rcases hle2 with h | h
                  · have := HDR.out.2; omega
                  · rw [h]; simp)
                have HS2 : Hid (PlS W cb c ib q qs tb nb t2 B0 rs ⟨ms', M.told, M.last, M.ref⟩ wB) := Lib.hid ⟨⟨Fe2.at_ HLe.out.cf (fun e => HPC.out.n.1 e.symm), ik_over HPC.out HLe.out.ik HRe.out (Fe2.mono (fun _ _ e => .inl e)), HLe.out.fr.step Fe2 (fun k e => by have := HPC.out.n.2.2.1; omega)⟩, hrk2⟩
                have HSM : Hid (Calls Try.prog 20 #[.slice A1 out.length k1, .slice A3 out.length k3] wB fun e w' => e = .returned (.bool true) ∧ Fr (fun _ => False) wB w') := Lib.hid (by
                  obtain ⟨a1, c1, hv1, rd1, hb1_⟩ := HOwn.out.reads
                  obtain ⟨a2, c2, hv2, rd2, -⟩ := Ow2.reads
                  injection hv1 with e1 e2 e3
                  injection hv2 with e4 e5 e6
                  subst e1; subst e4
                  exact rsame wB A1 A3 out.length k1 k3 out (rd1.fr Fe2 (fun ad ha (e : ad.block = nb) => by have h1 := hb1_ ad ha; have h2 := HSj.out.rk; obtain ⟨_, _, h2⟩ := h2; have := lt_of h2.sb; omega)) rd2 (by have := HLEN.out; omega))
                clear Ow2 hle2 hrk2 Fe2
                go_wp2_with fail
                refine HSM.out.mono ?_
                rintro e wC ⟨rfl, FC⟩
                have HS3 := Lib.hid (HS2.out.calm FC)
                clear FC
                go_wp2_with fail
                go_meet
                case rel => exact ⟨_, HS3.out, HRM.out.1, by have := HRM.out.2.1; show M.ref ≤ _; omega, HRM.out.2.2, HNOW.out.2.2⟩
              · have h3' : (y0 % 4 == 3) = false := by simp [h3]
                clear h3
                go_upto_region 14 with (fail)
                obtain ⟨kk, hkk⟩ : ∃ x, y1 % 10 - 1 = x := ⟨_, rfl⟩
                rw [hkk]
                clear hkk l0 l1 l2
                obtain ⟨r, hr_⟩ : ∃ r, ofr c rs M now kk y3 = r := ⟨_, rfl⟩
                have hrf := ofr_ref c rs M now kk y3
                have hrl := ofr_last c rs M now kk y3
                rw [hr_] at hrf hrl
                obtain ⟨rb, rM⟩ := r
                have HRF : Hid (M.ref ≤ rM.ref ∧ rM.ref ≤ M.ref + 1) := Lib.hid hrf
                have HRLA : Hid (rM.last = M.last ∨ rM.last = now) := Lib.hid hrl
                have HRR := Lib.hid hr_
                have HML : Hid (M.ms.length ≤ 10) := Lib.hid (HSj.out.lw.len10 HBB.out)
                have HSC : Hid (∀ w', Fr (fun _ => False) W w' → w'.cell? ⟨zb, zo + j * 4 + 3, none⟩ = some (.bool y3)) := Lib.hid (fun w' h => ((HRD.out.fr h (fun _ _ x => x)).ac hlt HYY.out).2.2.2)
                have HO1 : Hid (∀ w', Fr (fun _ => False) wr w' → Calls Try.prog 15 #[.pointer (some ⟨ib, 0, none⟩), .int .i64 now, .int .i64 kk, .bool y3] w' fun e w'' => e = .returned (.bool rb) ∧ Lw W cb c ib q qs tb rs rM w'' ∧ (∃ A k, Rk w'' nb t2 B0 c rs A k M) ∧ Fr (fun _ => False) W w'') := Lib.hid (fun w' h => by
                  have hs := HSj.out.calm h
                  have := ikoffer w' ib q qs tb c rs M hs.lw.ik now kk y3 (by have := HRM.out; omega)
                  rw [HRR.out] at this
                  exact this.mono fun e w'' ⟨h1, h2, h3⟩ => ⟨h1, hs.lw.step HLC.out h3 h2, rk_over HPC.out hs.lw.ik hs.rk h3, hs.lw.fr.step h3 HLC.out.up⟩)
                have HO2 : Hid (∀ w', Lw W cb c ib q qs tb rs rM w' → (∃ A k, Rk w' nb t2 B0 c rs A k M) → Calls Try.prog 22 #[.pointer (some ⟨nb, 0, none⟩), .int .i64 now, .int .i64 kk, .bool y3] w' fun e w'' => e = .returned (.bool rb) ∧ PlS W cb c ib q qs tb nb t2 B0 rs rM w'' ∧ Fr (fun _ => False) W w'') := Lib.hid (fun w' hl hk => by
                  obtain ⟨A, k, hk2⟩ := hk
                  have := rkoffer w' nb t2 B0 c rs A k M hk2 now kk y3 (by have := HRM.out; omega) (by have := HML.out; omega)
                  rw [HRR.out] at this
                  exact this.mono fun e w'' ⟨h1, h2, h3⟩ => ⟨h1, ⟨⟨h3.at_ hl.cf (fun e => by rcases e with e | e; exact HPC.out.n.1 e.symm; exact HPC.out.n.2.1 e.symm), ik_over HPC.out hl.ik ⟨A, k, hk2⟩ h3, hl.fr.step h3 HPC.out.low⟩, h2⟩, hl.fr.step h3 HPC.out.low⟩)
                have hF0 : Fr (fun _ => False) wr wr.drew := (Fr.refl _ _).drew
                have hFW : Fr (fun _ => False) W wr.drew := HSj.out.lw.fr.drew
                clear hrf hrl hr_ l3
                go_region_held3 (fun w' => w'.cell? ⟨zb, zo + j * 4 + 3, none⟩ = some (.bool y3))
                  (exact HSC.out _ (by assumption))
                  (first
                    | (go_at_call 15; refine (HO1.out _ (by assumption)).mono ?_; rintro e wA ⟨rfl, LA, KA, FA⟩)
                    | (go_at_call 22; refine (HO2.out _ (by assumption) (by assumption)).mono ?_; rintro e wB ⟨rfl, SB, FB⟩))
                all_goals
                  have HSB := Lib.hid SB
                  have hbb : (rb != rb) = false := by simp
                  clear LA KA FA SB FB
                  go_wp2_with fail
                  go_meet
                  case rel => exact ⟨rM, HSB.out, by have := HRF.out; have := HRM.out; omega, by have := HRF.out; have := HRM.out; omega, by have := HRLA.out; have := HRM.out; omega, by have := HRLA.out; have := HNOW.out; omega⟩
            case rest =>
              obtain ⟨M1, hS1, hr0, hr1, hla0, hla1⟩ := hcut
              have HS1 := Lib.hid hS1
              have HRM1 : Hid (0 ≤ M1.ref ∧ M1.ref ≤ (j : Int) + 1 ∧ 0 ≤ M1.last ∧ M1.last ≤ now) := Lib.hid ⟨hr0, hr1, hla0, hla1⟩
              clear hS1 hr0 hr1 hla0 hla1
              generalize wc = wd at HS1 ⊢
              obtain ⟨ov, hov⟩ : ∃ ov : Int → Bool, ∀ x, ovr c M1 x = ov x := ⟨_, fun _ => rfl⟩
              have hbl : BigI M1.last := by have := HRM1.out; unfold BigI; omega
              have HOVP : Hid (∀ (x : Calm wd) (t : Int), BigI t → Calls Try.prog 14 #[.pointer (some ⟨ib, 0, none⟩), .int .i64 t] x.to fun e w' => e = .returned (.bool (ov t)) ∧ Fr (fun _ => False) x.to w') := Lib.hid (fun x t ht => by
                have := ikover x.to ib q qs tb c rs M1 (HS1.out.lw.ik.calm x.fr) t ht hbl
                rw [hov] at this; exact this)
              have HOVR : Hid (∀ (x : Calm wd) (t : Int), BigI t → Calls Try.prog 23 #[.pointer (some ⟨nb, 0, none⟩), .int .i64 t] x.to fun e w' => e = .returned (.bool (ov t)) ∧ Fr (fun _ => False) x.to w') := Lib.hid (fun x t ht => by
                obtain ⟨A, k, hk⟩ := HS1.out.rk
                have := rkover x.to nb t2 B0 c rs A k M1 (hk.calm x.fr) t ht hbl
                rw [hov] at this; exact this)
              obtain ⟨a1, ha1⟩ : ∃ a : Nat, (bnd 1 M1.ms).length = a := ⟨_, rfl⟩
              obtain ⟨a2, ha2⟩ : ∃ a : Nat, (bnd 2 M1.ms).length = a := ⟨_, rfl⟩
              obtain ⟨a3, ha3⟩ : ∃ a : Nat, (bnd 3 M1.ms).length = a := ⟨_, rfl⟩
              have HWP : Hid (∀ x : Calm wd, Calls Try.prog 17 #[.pointer (some ⟨ib, 0, none⟩)] x.to fun e w' => e = .returned (.agg #[.int .i64 (a1 : Int), .int .i64 (a2 : Int), .int .i64 (a3 : Int)]) ∧ Fr (fun _ => False) x.to w') := Lib.hid (fun x => by
                have := ikwaiting x.to ib q qs tb c rs M1 (HS1.out.lw.ik.calm x.fr)
                rw [ha1, ha2, ha3] at this; exact this)
              have HWR : Hid (∀ x : Calm wd, Calls Try.prog 24 #[.pointer (some ⟨nb, 0, none⟩)] x.to fun e w' => e = .returned (.agg #[.int .i64 (a1 : Int), .int .i64 (a2 : Int), .int .i64 (a3 : Int)]) ∧ Fr (fun _ => False) x.to w') := Lib.hid (fun x => by
                obtain ⟨A, k, hk⟩ := HS1.out.rk
                have := rkwaiting x.to nb t2 B0 c rs A k M1 (hk.calm x.fr) (by have := HS1.out.lw.len10 HBB.out; omega)
                rw [ha1, ha2, ha3] at this; exact this)
              have HRP : Hid (∀ x : Calm wd, Calls Try.prog 16 #[.pointer (some ⟨ib, 0, none⟩)] x.to fun e w' => e = .returned (.int .i64 M1.ref) ∧ Fr (fun _ => False) x.to w') := Lib.hid (fun x => ikrefused x.to ib q qs tb c rs M1 (HS1.out.lw.ik.calm x.fr))
              have n17 : ∀ x : Calm wd, x.to.cell? ⟨nb, 17, none⟩ = some (.int .i64 M1.ref) := fun x => by
                obtain ⟨A, k, hk⟩ := HS1.out.rk
                exact (cells18 (x.fr.at_ hk.sb (fun x => x))).2.2.2.2.2.2.2.2.2.2.2.2.2.2.2.2.2
              have hb0 : BigI now := HB1.out
              have hb3 : BigI (now + 3) := HB3.out
              have hw1 : IntKind.i64.wrap (now + 3) = now + 3 := i64_in (by omega) (by omega)
              have hw2 : wrap64 (now + 3) = now + 3 := w64_in (by omega) (by omega)
              clear hov hbl ha1 ha2 ha3
              go_wp2_with fail
              (refine wp_region_calm (by kernel_rfl) (by kernel_rfl) ?_; (repeat (go_big_quiet_step ((first | (go_at_call 14; exact Calm.of (HOVP.out _ _ (by assumption))) | (go_at_call 23; exact Calm.of (HOVR.out _ _ (by assumption))) | (go_at_call 17; exact Calm.of (v := .agg #[.int .i64 (a1 : Int), .int .i64 (a2 : Int), .int .i64 (a3 : Int)]) (HWP.out _)) | (go_at_call 24; exact Calm.of (v := .agg #[.int .i64 (a1 : Int), .int .i64 (a2 : Int), .int .i64 (a3 : Int)]) (HWR.out _)) | (go_at_call 16; exact Calm.of (HRP.out _)))))); refine wpQuiet_nil ?_; intro _ hwq0; obtain ⟨nq, hwq1⟩ := hwq0; subst hwq1)
              have HS2 := Lib.hid (HS1.out.calm nq.fr)
              generalize nq.to = we at HS2 ⊢
              clear n17 hw1 hw2
              go_wp2_with fail
              go_roundw
              case rel => exact ⟨j + 1, now, M1, rfl, by go_num, by omega, HNOW.out.1, by have := HNOW.out.2.1; push_cast; omega, HS2.out, HRM1.out.1, by have := HRM1.out.2.1; push_cast; omega, HRM1.out.2.2.1, HRM1.out.2.2.2⟩
              case measure => simp [intOf]; omega
          · have hlt' : ¬ (j : Int) < (n : Int) := by omega
            go_wp2_with fail
            go_ret
            exact ⟨rfl, HSj.out.lw.fr.below⟩
  · have hlim' : (100 : Int) < (n : Int) := by omega
    go_enter Try.func7, Try.ntmps7
    go_wp2_with fail
    refine (refuses_any _).mono ?_
    rintro e w2 ⟨rfl, F_w2⟩
    have G_w2 := Lib.hid (F_w2)
    clear F_w2
    clear hw1
    obtain ⟨q0, q1, q2, q3, q4, q5, q6, q7⟩ := cells8 (G_w2.out.at_ HBD.out (fun x => x))
    have HSH := Lib.hid (short_any w2 A0 A1 n0 k0 n1 k1 gb gd gp go_ gk gl ls (HD.out.rd.fr G_w2.out (fun _ _ x => x)))
    go_wp2_with fail
    refine HSH.out.mono ?_
    rintro e w3 ⟨b, rfl, F3⟩
    have G_w3 := Lib.hid (G_w2.out.step F3 nop)
    clear F3 q0 q1 q2 q3 q4 q5 q6 q7
    cases b
    · go_wp2_with fail
      refine (refuses_any _).mono ?_
      rintro e w4 ⟨rfl, F_w4⟩
      have G_w4 := Lib.hid (G_w3.out.step F_w4 nop)
      clear F_w4
      go_wp2_with fail
      go_ret
      exact ⟨rfl, (HF1.out.step G_w4.out nop).below⟩
    · go_wp2_with fail
      refine (refuses_any _).mono ?_
      rintro e w4 ⟨rfl, F_w4⟩
      have G_w4 := Lib.hid (G_w3.out.step F_w4 nop)
      clear F_w4
      go_wp2_with fail
      go_ret
      exact ⟨rfl, (HF1.out.step G_w4.out nop).below⟩

end Go.Proofs.Ytahddolplklopaa
