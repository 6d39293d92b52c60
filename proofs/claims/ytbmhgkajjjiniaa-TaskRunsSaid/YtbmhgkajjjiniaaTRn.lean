/- TRn. -/
import Derived.Test.YtbmhgkajjjiniaaChecked
import Derived.WalkKit
import Derived.Laws.IdiomCopy
import Derived.Deep.QuietTactic
import Derived.BigQuiet
import Derived.Lib.Hide
import Derived.OpenShut
import Derived.StillTailTactics
import Derived.Deep.RegionWith
import Derived.Deep.RegionLaw
import Derived.Deep.Slices
import Derived.Deep.RegionHeld3
import Derived.OwnWalk
import Derived.Test.YtbmhgkajjjiniaaBase
import Derived.Test.YtbmhgkajjjiniaaCalm
import Derived.Test.YtbmhgkajjjiniaaCalmT
import Derived.Test.YtbmhgkajjjiniaaCel
import Derived.Test.YtbmhgkajjjiniaaApp
import Derived.Test.YtbmhgkajjjiniaaClk
import Derived.Test.YtbmhgkajjjiniaaRV
import Derived.Test.YtbmhgkajjjiniaaRVB
import Derived.Test.YtbmhgkajjjiniaaRVC
import Derived.Test.YtbmhgkajjjiniaaRVA
import Derived.Test.YtbmhgkajjjiniaaCeS
import Derived.Test.YtbmhgkajjjiniaaCeF
import Derived.Test.YtbmhgkajjjiniaaCeG
import Derived.Test.YtbmhgkajjjiniaaCeN
import Derived.Test.YtbmhgkajjjiniaaCeX
import Derived.Test.YtbmhgkajjjiniaaClkR
import Derived.Test.YtbmhgkajjjiniaaSn
import Derived.Test.YtbmhgkajjjiniaaSn2
import Derived.Test.YtbmhgkajjjiniaaCpL
import Derived.Test.YtbmhgkajjjiniaaCel9
import Derived.Test.YtbmhgkajjjiniaaTr
import Derived.Test.YtbmhgkajjjiniaaGCr
import Derived.Test.YtbmhgkajjjiniaaTCh
import Derived.Test.YtbmhgkajjjiniaaGSt
import Derived.Test.YtbmhgkajjjiniaaTOb
import Derived.Test.YtbmhgkajjjiniaaTTk
import Derived.Test.YtbmhgkajjjiniaaTBd
import Derived.Test.YtbmhgkajjjiniaaTAp
namespace Go.Proofs.Ytbmhgkajjjiniaa
open Go.RowKit
set_option linter.unusedVariables false
set_option linter.unusedSimpArgs false

/-! ### TaskRuns -/
def TrRel (W : World) (s g : Nat) (sh : List (Nat × Nat)) (bt rb gb : Nat) (K SG LIM BK DL SP : Int) (B0 n : Nat) (m nw i : Value) (wr : World) : Prop :=
  ∃ (j : Nat) (t : Int) (ms : List Sn) (gt : Bool × Bool × Int), nw = .int .i64 t ∧ i = .int .i64 j ∧ j ≤ n ∧ 1 ≤ t ∧ t ≤ 1 + 4 * (j : Int) ∧ ms.length ≤ j ∧ SI wr s g sh ms ∧ Own ESn 42 wr B0 m ms ∧
    TK wr bt K SG LIM BK DL SP 0 false none 0 0 gt ∧ BigI gt.2.2 ∧ wr.heap[gb]? = some (.cells #[.bool gt.1, .bool gt.2.1, .int .i64 gt.2.2] 35 (0, 0)) ∧ wr.heap[rb]? = some (.cells #[.int .u8 K, .int .i64 SG, .int .i64 LIM, .int .i64 BK, .int .i64 DL, .int .i64 SP, .int .u8 0, .bool false, .slice none 0 0] 27 (0, 0)) ∧ Fr (fun _ => False) W wr ∧ B0 ≤ wr.heap.size
/-- The blocks that the law's own variables take. -/
structure Apart (W : World) (s g : Nat) (sh : List (Nat × Nat)) (bt rb gb B0 : Nat) : Prop where
  st : ∀ i, inSt s g sh i → W.heap.size ≤ i ∧ i < B0
  wt : W.heap.size ≤ bt ∧ bt < B0
  wr : W.heap.size ≤ rb ∧ rb < B0
  wg : W.heap.size ≤ gb ∧ gb < B0
  st_t : ¬ inSt s g sh bt
  st_r : ¬ inSt s g sh rb
  st_g : ¬ inSt s g sh gb
  t_r : rb ≠ bt
  t_g : gb ≠ bt
  r_g : rb ≠ gb
set_option maxRecDepth 100000 in
set_option maxHeartbeats 8000000 in
theorem TaskRuns_walk (kind sig lim back delay span : Int) (A : Option Addr) (len cap : Nat) (zs : List Tc) (W : World) (w0 : (Lit.int .u8 kind).wf = true) (w1 : (Lit.int .u8 sig).wf = true) (w2 : (Lit.int .i16 lim).wf = true) (w3 : (Lit.int .i16 back).wf = true) (w4 : (Lit.int .u8 delay).wf = true) (w5 : (Lit.int .u8 span).wf = true)
    (hr : Reads ETc W A len zs) (hw : ∀ y, y ∈ zs → okTc y) (hcap : len ≤ cap ∧ cap ≤ maxLen) :
    Calls Try.prog 3 #[.int .u8 kind, .int .u8 sig, .int .i16 lim, .int .i16 back, .int .u8 delay, .int .u8 span, .slice A len cap] W fun e w' => e = .returned (.bool true) ∧ Below W.heap.size W w' := by
  clear hcap
  have hb0 := bounds_u8 w0
  have hb1 := bounds_u8 w1
  have hb2 := bounds_i16 w2
  have hb3 := bounds_i16 w3
  have hb4 := bounds_u8 w4
  have hb5 := bounds_u8 w5
  clear w0 w1 w2 w3 w4 w5
  have HL := Lib.hid hr.1
  have HW := Lib.hid hw
  have HRD := Lib.hid hr
  clear hw hr
  by_cases hn : len ≤ 60
  · have e0 : ¬ (60 : Int) < (len : Int) := by omega
    have HRU := Lib.hid (fun w => rule_any w kind sig lim back delay span hb0 hb1 hb2 hb3 hb4 hb5)
    obtain ⟨K, hk⟩ : ∃ x : Int, kind % 8 = x := ⟨_, rfl⟩
    obtain ⟨SG, hsg⟩ : ∃ x : Int, sig % 3 = x := ⟨_, rfl⟩
    obtain ⟨DL, hdl⟩ : ∃ x : Int, delay % 12 = x := ⟨_, rfl⟩
    obtain ⟨SP, hsp⟩ : ∃ x : Int, span % 20 = x := ⟨_, rfl⟩
    have HSP : Hid (BigI SP) := Lib.hid (by unfold BigI; omega)
    have HB0 : Hid (BigI 0) := Lib.hid (by unfold BigI; omega)
    rw [hk, hsg, hdl, hsp] at HRU
    clear hk hsg hdl hsp hb0 hb1 hb2 hb3 hb4 hb5
    obtain ⟨LIM, hl⟩ : ∃ x : Int, lim = x := ⟨_, rfl⟩
    obtain ⟨BK, hk⟩ : ∃ x : Int, back = x := ⟨_, rfl⟩
    subst hl
    subst hk
    go_enter Try.func3, Try.ntmps3
    go_wp2_with fail
    refine (bad_any _).mono ?_
    rintro e w1 ⟨rfl, F1⟩
    go_wp2_with fail
    refine (HRU.out _).mono ?_
    rintro e w2 ⟨rfl, F2⟩
    have F12 := F1.step F2 nop
    have Bz5 : (w2.alloc (.cells #[.int .u8 0, .int .i64 0, .int .i64 0, .int .i64 0, .int .i64 0, .int .i64 0, .int .u8 0, .bool false, .slice none 0 0] 27)).heap[w2.heap.size]? = some (.cells #[.int .u8 0, .int .i64 0, .int .i64 0, .int .i64 0, .int .i64 0, .int .i64 0, .int .u8 0, .bool false, .slice none 0 0] 27 (0, 0)) := alloc_is _ rfl
    have Fz5 := (Fr.refl (fun _ => False) w2).alloc (.cells #[.int .u8 0, .int .i64 0, .int .i64 0, .int .i64 0, .int .i64 0, .int .i64 0, .int .u8 0, .bool false, .slice none 0 0] 27)
    generalize hwm5 : w2.alloc (.cells #[.int .u8 0, .int .i64 0, .int .i64 0, .int .i64 0, .int .i64 0, .int .i64 0, .int .u8 0, .bool false, .slice none 0 0] 27) = wm5 at Bz5 Fz5
    obtain ⟨c5_0, c5_1, c5_2, c5_3, c5_4, c5_5, c5_6, c5_7, c5_8⟩ := cells9 Bz5
    have z5_0 := frozen_of Bz5 0
    have z5_1 := frozen_of Bz5 1
    have z5_2 := frozen_of Bz5 2
    have z5_3 := frozen_of Bz5 3
    have z5_4 := frozen_of Bz5 4
    have z5_5 := frozen_of Bz5 5
    have z5_6 := frozen_of Bz5 6
    have z5_7 := frozen_of Bz5 7
    have z5_8 := frozen_of Bz5 8
    have B5 := put9 (y0 := .int .u8 K) (y1 := .int .i64 SG) (y2 := .int .i64 lim) (y3 := .int .i64 back) (y4 := .int .i64 DL) (y5 := .int .i64 SP) (y6 := .int .u8 0) (y7 := .bool false) (y8 := .slice none 0 0) Bz5
    have Fo5 := (Fr.refl (fun i => i = w2.heap.size) wm5).put9 (b := w2.heap.size) (fun _ => rfl) (.int .u8 K) (.int .i64 SG) (.int .i64 lim) (.int .i64 back) (.int .i64 DL) (.int .i64 SP) (.int .u8 0) (.bool false) (.slice none 0 0)
    generalize hwo5 : (((((((((wm5.setCell ⟨w2.heap.size, 0, none⟩ (.int .u8 K)).setCell ⟨w2.heap.size, 1, none⟩ (.int .i64 SG)).setCell ⟨w2.heap.size, 2, none⟩ (.int .i64 lim)).setCell ⟨w2.heap.size, 3, none⟩ (.int .i64 back)).setCell ⟨w2.heap.size, 4, none⟩ (.int .i64 DL)).setCell ⟨w2.heap.size, 5, none⟩ (.int .i64 SP)).setCell ⟨w2.heap.size, 6, none⟩ (.int .u8 0)).setCell ⟨w2.heap.size, 7, none⟩ (.bool false)).setCell ⟨w2.heap.size, 8, none⟩ (.slice none 0 0)) = wo5 at B5 Fo5
    have FF5 := Fz5.trans Fo5 (fun i hi (h : i = w2.heap.size) => by omega)
    obtain ⟨d5_0, d5_1, d5_2, d5_3, d5_4, d5_5, d5_6, d5_7, d5_8⟩ := cells9 B5
    have HF2 := Lib.hid (F12.step FF5 nop)
    have HRW : Hid (W.heap.size ≤ w2.heap.size ∧ w2.heap.size < wo5.heap.size) := Lib.hid ⟨F12.size, lt_of B5⟩
    have HR5 := Lib.hid B5
    go_wp2_with fail
    refine (task_new _ K SG lim back DL SP 0 false none 0 0).mono ?_
    rintro e w3 ⟨bt, rfl, T3, hb1, hb2, F3⟩
    clear c5_0 z5_0 c5_1 z5_1 c5_2 z5_2 c5_3 z5_3 c5_4 z5_4 c5_5 z5_5 c5_6 z5_6 c5_7 z5_7 c5_8 z5_8 d5_0 d5_1 d5_2 d5_3 d5_4 d5_5 d5_6 d5_7 d5_8 Bz5 Fz5 Fo5 hwm5 hwo5
    clear FF5 B5 F12 F1 F2 HRU
    have HWT : Hid (W.heap.size ≤ bt ∧ w2.heap.size < bt ∧ bt < w3.heap.size) := Lib.hid (by have := HF2.out.size; have := HRW.out; omega)
    have HF3 := Lib.hid (HF2.out.step F3 nop)
    have HR3 := Lib.hid (F3.at_ HR5.out (fun x => x))
    have HT3 := Lib.hid T3
    clear F3 T3 hb1 hb2 HF2 HR5
    go_wp2_with fail
    refine (si_new _ 2 (N := 2) rfl).mono ?_
    rintro e w4 ⟨s, g, sh, rfl, hsl, S4, F4, hup⟩
    have HF4 := Lib.hid (HF3.out.step F4 nop)
    have HR4 := Lib.hid (F4.at_ HR3.out (fun x => x))
    have HT4 := Lib.hid (HT3.out.fr F4 (fun x => x))
    have HS4 := Lib.hid S4
    have HSL := Lib.hid hsl
    have HUP := Lib.hid hup
    have HZ4 : Hid (w3.heap.size ≤ w4.heap.size) := Lib.hid F4.size
    clear F4 hsl hup S4 HF3 HR3 HT3
    have BG := alloc_is (w := w4) (n := w4.heap.size) (.cells #[.bool false, .bool false, .int .i64 0] 35) rfl
    have FG := (Fr.refl (fun _ => False) w4).alloc (.cells #[.bool false, .bool false, .int .i64 0] 35)
    generalize hwg : w4.alloc (.cells #[.bool false, .bool false, .int .i64 0] 35) = w5 at BG FG
    have hgl : w4.heap.size < w5.heap.size := lt_of BG
    have HAP0 : Hid (Apart W s g sh bt w2.heap.size w4.heap.size w5.heap.size) := Lib.hid (by
      have h1 := HRW.out
      have h2 := HWT.out
      have h3 := HZ4.out
      have h4 := HUP.out
      refine ⟨fun i hi => ⟨?_, ?_⟩, ?_, ?_, ?_, fun h => ?_, fun h => ?_, fun h => ?_, ?_, ?_, ?_⟩
      · have := h4 i hi; have := HF4.out.size; omega
      · have := HS4.out.in_ hi; omega
      · omega
      · omega
      · have := HF4.out.size; omega
      · have := h4 _ h; omega
      · have := h4 _ h; omega
      · have := HS4.out.in_ h; omega
      · omega
      · omega
      · omega)
    have HRL0 : Hid (TrRel W s g sh bt w2.heap.size w4.heap.size K SG lim back DL SP w5.heap.size len (.slice none 0 0) (.int .i64 1) (.int .i64 0) w5) := Lib.hid
      ⟨0, 1, [], (false, false, 0), rfl, rfl, Nat.zero_le _, by omega, by omega, Nat.le_refl _, HS4.out.calm FG, Own.nil _ _ _ _, HT4.out.fr FG (fun x => x), HB0.out, BG, FG.at_ HR4.out (fun x => x), HF4.out.step FG nop, Nat.le_refl _⟩
    have HSL2 : Hid (2 = sh.length) := Lib.hid HSL.out.symm
    obtain ⟨rb, hrb⟩ : ∃ rb, w2.heap.size = rb := ⟨_, rfl⟩
    obtain ⟨gb, hgb⟩ : ∃ gb, w4.heap.size = gb := ⟨_, rfl⟩
    obtain ⟨B0, hB0⟩ : ∃ B0, w5.heap.size = B0 := ⟨_, rfl⟩
    have HAP : Hid (Apart W s g sh bt rb gb B0) := Lib.hid (by rw [← hrb, ← hgb, ← hB0]; exact HAP0.out)
    have HRL : Hid (TrRel W s g sh bt rb gb K SG lim back DL SP B0 len (.slice none 0 0) (.int .i64 1) (.int .i64 0) w5) := Lib.hid (by rw [← hrb, ← hgb, ← hB0]; exact HRL0.out)
    clear HAP0 HRL0 HSL HUP HZ4 HWT HRW HF4 HR4 HT4 HS4 BG FG hgl hB0
    go_wp2_with fail
    try rw [hrb]
    try rw [hgb]
    clear hrb hgb hwg
    go_loopw [18, 20, 21] (fun m nw i wr => TrRel W s g sh bt rb gb K SG lim back DL SP B0 len m nw i wr) (fun _ _ i _ => len - (intOf i).toNat)
    case atStart => exact HRL.out
    case round =>
      clear HRL
      obtain ⟨j, t, ms, gt, rfl, rfl, hj, ht0, ht1, hmj, Sj, Oj, Tj, hbg, Gj, Rj, Fj, hBj⟩ := hrel
      have HSj := Lib.hid Sj
      have HOj := Lib.hid Oj
      have HTj := Lib.hid Tj
      have HGj := Lib.hid Gj
      have HRj := Lib.hid Rj
      have HFj := Lib.hid Fj
      have HBGT := Lib.hid hbg
      clear Sj Oj Tj Gj Rj hbg
      by_cases hlt : j < len
      · have rz := HRD.out.fr Fj (fun _ _ x => x)
        clear Fj
        obtain ⟨zb, zo, rfl, hzb⟩ := rz.plain (by omega)
        have hwf := HW.out (zs.getD j ETc.z) (by have := HL.out; simp [List.getD_eq_getElem?_getD, this, hlt])
        obtain ⟨y, hy⟩ : ∃ y, zs.getD j ETc.z = y := ⟨_, rfl⟩
        rw [hy] at hwf
        obtain ⟨y0, y1, y2, y3, y4⟩ := y
        have b0 : 0 ≤ y0 ∧ y0 ≤ 255 := bounds_u8 hwf.1
        have b1 : 0 ≤ y1 ∧ y1 ≤ 255 := bounds_u8 hwf.2.1
        have b2 : -32768 ≤ y2 ∧ y2 ≤ 32767 := bounds_i16 hwf.2.2.1
        obtain ⟨l0, l1, l2, l3, l4⟩ := rz.tc hlt hy
        have hlt' : (j : Int) < (len : Int) := by omega
        obtain ⟨t', ht'⟩ : ∃ t', t' = t + y0 % 5 := ⟨_, rfl⟩
        have ht2 : 1 ≤ t' ∧ t' ≤ 1 + 4 * ((j + 1 : Nat) : Int) ∧ t' ≤ 2000 := by omega
        have HT := Lib.hid ht'
        have HBT : Hid (BigI t') := Lib.hid (by unfold BigI; omega)
        have HRZ := Lib.hid rz
        have HYY := Lib.hid hy
        obtain ⟨x, hx⟩ : ∃ x : Int, y1 % 2 = x := ⟨_, rfl⟩
        have HX : Hid (0 ≤ x ∧ x < 2) := Lib.hid (by omega)
        have HY2 : Hid (-2147483648 ≤ y2 ∧ y2 ≤ 2147483647) := Lib.hid (by omega)
        clear ht' hwf hy rz l4
        go_wp2_with fail
        rw [← HT.out]
        have HS : Hid (∀ w', Fr (fun _ => False) wr w' → w'.cell? ⟨zb, zo + j * 5 + 1, none⟩ = some (.int .u8 y1) ∧ w'.cell? ⟨zb, zo + j * 5 + 2, none⟩ = some (.int .i16 y2) ∧ w'.cell? ⟨zb, zo + j * 5 + 3, none⟩ = some (.bool y3)) := Lib.hid (fun w' h => by
          obtain ⟨q0, q1, q2, q3, q4⟩ := (HRZ.out.fr h (fun _ _ x => x)).tc hlt HYY.out
          exact ⟨q1, q2, q3⟩)
        have hF0 : Fr (fun _ => False) wr wr.drew := (Fr.refl _ _).drew
        have g1 : IntKind.i64.wrap (y1.tmod 2) = x := by rw [Int.tmod_eq_emod_of_nonneg b1.1, hx]; exact IntWalk.i64_in _ (by omega)
        have g2 : IntKind.i64.wrap y2 = y2 := IntWalk.i64_in _ (by omega)
        clear hx
        go_region_held3 (fun w' => w'.cell? ⟨zb, zo + j * 5 + 1, none⟩ = some (.int .u8 y1) ∧ w'.cell? ⟨zb, zo + j * 5 + 2, none⟩ = some (.int .i16 y2) ∧ w'.cell? ⟨zb, zo + j * 5 + 3, none⟩ = some (.bool y3))
          (first | exact HS.out _ (by assumption) | exact HS.out _ (Fr.alloc (by assumption) _))
          (fail)
        try rw [g1, g2]
        clear g1 g2
        have BX : ((wr.alloc (.cells #[.int .i64 x, .int .u8 0, .int .i64 y2, .bool y3] 39)).drew).heap[wr.heap.size]? = some (.cells #[.int .i64 x, .int .u8 0, .int .i64 y2, .bool y3] 39 (0, 0)) := alloc_is (w := wr) _ rfl
        have FX : Fr (fun _ => False) wr ((wr.alloc (.cells #[.int .i64 x, .int .u8 0, .int .i64 y2, .bool y3] 39)).drew) := ((Fr.refl _ wr).alloc _).drew
        generalize (wr.alloc (.cells #[.int .i64 x, .int .u8 0, .int .i64 y2, .bool y3] 39)).drew = wx at BX FX ⊢
        obtain ⟨q0, q1, q2, q3⟩ := cells4 BX
        have HFX := Lib.hid FX
        have HBX := Lib.hid BX
        clear FX BX hF0 l0 l1 l2 l3
        go_wp2_with fail
        refine (si_put (HSj.out.calm HFX.out) x t' 0 y2 y3 (by have := HSL2.out; have := HX.out; omega) HBT.out HY2.out).mono ?_
        rintro e w6 ⟨rfl, S6, F6⟩
        have hxs : ¬ inSt s g sh wr.heap.size := fun h => by have := (HAP.out.st _ h).2; omega
        have Bz6 := F6.at_ HBX.out hxs
        obtain ⟨v0, v1, v2, v3⟩ := cells4 Bz6
        have HO6 := Lib.hid ((HOj.out.fr HFX.out (fun _ _ x => x)).fr F6 (fun k hk h => by have := (HAP.out.st _ h).2; have := (HOj.out.blk k hk).1; omega))
        have HF6 := Lib.hid ((HFj.out.step HFX.out nop).step F6 (fun k hk => (HAP.out.st k hk).1))
        have HT6 := Lib.hid ((HTj.out.fr HFX.out (fun x => x)).fr F6 HAP.out.st_t)
        have HR6 := Lib.hid (F6.at_ (HFX.out.at_ HRj.out (fun x => x)) HAP.out.st_r)
        have HG6 := Lib.hid (F6.at_ (HFX.out.at_ HGj.out (fun x => x)) HAP.out.st_g)
        have hs6 : B0 ≤ w6.heap.size := by have := F6.size; have := HFX.out.size; omega
        have HS6 := Lib.hid S6
        clear S6 F6 q0 q1 q2 q3 Bz6 HSj HOj HTj HGj HRj HFj hxs HFX HBX
        obtain ⟨i0, hii, hz0, hz1, hz2⟩ := info_parts infoSn
        go_wp2_with (at_builtin; refine append_one ESn 42 rfl _ _ 33 rfl i0 _ 40 Try.underlying33 hii hz0 hz1 hz2 rfl B0 _ _ rfl (HO6.out.alloc _) ⟨w6.heap.size, 0, none⟩ 1 (t', x, 0, y2, y3) rfl ?c1 ?c2 ?c3 ?c4 ?c5 ?_)
        case c1 => first | exact lit_cells (W := w6) (cs := [.int .i64 t', .int .i64 x, .int .u8 0, .int .i64 y2, .bool y3]) rfl | exact fun j u hu => hu
        case c2 => intro u hu; simp [ESn] at hu; rcases hu with rfl | rfl | rfl | rfl | rfl <;> rfl
        case c3 => unfold maxLen; omega
        case c4 => omega
        case c5 => first | omega | (simp; omega)
        intro v' w7 hown hgrow
        have F7W := (HF6.out.alloc (.cells #[.int .i64 t', .int .i64 x, .int .u8 0, .int .i64 y2, .bool y3] 42)).grown hgrow (fun k hk => by have := (HO6.out.blk k hk).1; have := HAP.out.wt; omega)
        have F7S := ((Fr.refl (fun k => B0 ≤ k) w6).alloc (.cells #[.int .i64 t', .int .i64 x, .int .u8 0, .int .i64 y2, .bool y3] 42)).grownS hgrow (fun k hk => (HO6.out.blk k hk).1)
        have HS7 := Lib.hid (HS6.out.fr F7S (fun k hk h => by have := (HAP.out.st k hk).2; omega))
        have HT7 := Lib.hid (HT6.out.fr F7S (fun h => by have := HAP.out.wt; omega))
        have HR7 := Lib.hid (F7S.at_ HR6.out (fun h => by have := HAP.out.wr; omega))
        have HG7 := Lib.hid (F7S.at_ HG6.out (fun h => by have := HAP.out.wg; omega))
        have hs7 : B0 ≤ w7.heap.size := by have := F7S.size; omega
        have HF7 := Lib.hid F7W
        have hm7 : (ms ++ [(t', x, 0, y2, y3)]).length ≤ j + 1 := by rw [List.length_append]; simp; omega
        generalize ms ++ [(t', x, 0, y2, y3)] = m7 at hown hm7 HS7
        obtain ⟨A7, c7_, rfl, qq7, _⟩ := hown.reads
        have HQ7 := Lib.hid qq7
        have HO7 := Lib.hid hown
        clear hgrow F7W F7S HS6 HF6 HO6 HT6 HR6 HG6 qq7 hown hii hz0 hz1 hz2 v0 v1 v2 v3
        obtain ⟨r, hrr⟩ : ∃ r, ob K SG lim back SP m7 t' = r := ⟨_, rfl⟩
        obtain ⟨ra, rb_⟩ := r
        have HRR := Lib.hid hrr
        clear hrr
        obtain ⟨c0, c1, c2, c3, c4, c5, c6, c7, c8⟩ := cells9 HR7.out
        go_wp2_with fail
        refine (obs_si HS7.out K SG lim back DL SP 0 false none 0 0 t' HBT.out HSP.out HRR.out).mono ?_
        rintro e w8 ⟨rfl, F8⟩
        have HR8 := Lib.hid (F8.at_ HR7.out (fun x => x))
        have HF8 := Lib.hid F8
        clear F8 c0 c1 c2 c3 c4 c5 c6 c7 c8
        obtain ⟨c0, c1, c2, c3, c4, c5, c6, c7, c8⟩ := cells9 HR8.out
        have HRO := Lib.hid (robs_any (HQ7.out.fr HF8.out (fun _ _ x => x)) (cc := c7_) (by omega) HS7.out.bigs HS7.out.1 K SG lim back DL SP 0 false none 0 0 t' HBT.out HSP.out)
        rw [HRR.out] at HRO
        go_wp2_with fail
        refine HRO.out.mono ?_
        rintro e w9 ⟨rfl, F9⟩
        have F79 := HF8.out.step F9 nop
        have HR9 := Lib.hid (F9.at_ HR8.out (fun x => x))
        have HS9 := Lib.hid (HS7.out.calm F79)
        have HT9 := Lib.hid (HT7.out.fr F79 (fun x => x))
        have HG9 := Lib.hid (F79.at_ HG7.out (fun x => x))
        have HO9 := Lib.hid (HO7.out.fr F79 (fun _ _ x => x))
        have HF9 := Lib.hid (HF7.out.step F79 nop)
        have hs9 : B0 ≤ w9.heap.size := by have := F79.size; omega
        clear F9 F79 HF8 HR8 HR7 HS7 HT7 HG7 HO7 HF7 HRO HQ7 c0 c1 c2 c3 c4 c5 c6 c7 c8
        have l4 := ((HRD.out.fr HF9.out (fun _ _ x => x)).tc hlt HYY.out).2.2.2.2
        cases y4
        case true =>
          obtain ⟨g0, g1, g2⟩ := gt
          obtain ⟨q, hq⟩ : ∃ q, gs (g0, g1, g2) t' ra rb_ DL = q := ⟨_, rfl⟩
          obtain ⟨q0, q1, q2⟩ := q
          have HQQ := Lib.hid hq
          have HBQ : Hid (BigI ((q0, q1, q2) : Bool × Bool × Int).2.2) := Lib.hid (by rw [← hq]; exact gs_big HBGT.out HBT.out _ _ _)
          have HST := Lib.hid (fun w => rstep_any w g0 g1 g2 t' ra rb_ DL HBGT.out HBT.out)
          rw [hq] at HST
          clear hq
          obtain ⟨c0, c1, c2, c3, c4, c5, c6, c7, c8⟩ := cells9 HR9.out
          clear c0 c1 c2 c3 c5 c6 c7 c8
          obtain ⟨m0, m1, m2⟩ := cells3 HG9.out
          go_wp2_with fail
          refine (HST.out _).mono ?_
          rintro e wa ⟨rfl, Fa⟩
          simp only [gv]
          have Ga := Fa.at_ HG9.out (fun x => x)
          obtain ⟨d0, d1, d2⟩ := cells3 Ga
          have z0 := frozen_of Ga 0
          have z1 := frozen_of Ga 1
          have z2 := frozen_of Ga 2
          have Gb := put3 (x' := .bool q0) (y' := .bool q1) (z' := .int .i64 q2) Ga
          have Fb := (Fr.mono (S' := fun k => k = gb) Fa (fun _ _ x => x.elim)).put3 (b := gb) (fun _ => rfl) (.bool q0) (.bool q1) (.int .i64 q2)
          generalize hwb : ((wa.setCell ⟨gb, 0, none⟩ (.bool q0)).setCell ⟨gb, 1, none⟩ (.bool q1)).setCell ⟨gb, 2, none⟩ (.int .i64 q2) = wb at Gb Fb
          have HGb := Lib.hid Gb
          have HSb := Lib.hid (HS9.out.fr Fb (fun i hi e => HAP.out.st_g (e ▸ hi)))
          have HTb := Lib.hid (HT9.out.fr Fb HAP.out.t_g.symm)
          have HRb := Lib.hid (Fb.at_ HR9.out HAP.out.r_g)
          have HOb := Lib.hid (HO9.out.fr Fb (fun k hk e => by have := (HO9.out.blk k hk).1; have := HAP.out.wg; omega))
          have HFb := Lib.hid (HF9.out.step Fb (fun i e => by have := HAP.out.wg; omega))
          have hsb : B0 ≤ wb.heap.size := by have := Fb.size; omega
          have HK : Hid (∀ w', Fr (fun k => k = bt) wb w' → w'.cell? ⟨gb, 0, none⟩ = some (.bool q0)) := Lib.hid (fun w' h => by rw [cell_of (h.at_ HGb.out HAP.out.t_g)]; rfl)
          have HRN : Hid (∀ w', Fr (fun _ => False) wb w' → Calls Try.prog 16 #[.pointer (some ⟨bt, 0, none⟩), .int .i64 t', .pointer (some ⟨s, 0, none⟩)] w' fun e w'' => e = .returned (.bool q0) ∧ TK w'' bt K SG lim back DL SP 0 false none 0 0 (q0, q1, q2) ∧ Fr (fun k => k = bt) wb w'') := Lib.hid (fun w' h =>
            (task_run (HTb.out.fr h (fun x => x)) HBGT.out (HSb.out.calm h) HBT.out HSP.out HRR.out HQQ.out HAP.out.st_t).mono fun e w'' ⟨h1, h2, _, _, h3⟩ => ⟨h1, h2, (h.mono (S' := fun k => k = bt) (fun _ _ x => x.elim)).trans h3 (fun _ _ x => x)⟩)
          have hF0 : Fr (fun _ => False) wb wb.drew := (Fr.refl _ _).drew
          clear Gb
          go_wp2_with fail
          clear hwb d0 d1 d2 z0 z1 z2 m0 m1 m2 c4 Ga Fa Fb HST
          go_region_held3 (fun w' => w'.cell? ⟨gb, 0, none⟩ = some (.bool q0))
            (first | exact HK.out _ (by assumption) | exact HK.out _ (Fr.mono (S := fun _ => False) (by assumption) (fun _ _ x => x.elim)))
            ((go_at_call 16; refine (HRN.out _ (by assumption)).mono ?_; rintro e wc ⟨rfl, Tc_, Fc⟩))
          have HSa := Lib.hid (HSb.out.fr Fc (fun i hi e => HAP.out.st_t (e ▸ hi)))
          have HTa := Lib.hid Tc_
          have HGa := Lib.hid (Fc.at_ HGb.out HAP.out.t_g)
          have HRa := Lib.hid (Fc.at_ HRb.out HAP.out.t_r)
          have HOa := Lib.hid (HOb.out.fr Fc (fun k hk e => by have := (HOb.out.blk k hk).1; have := HAP.out.wt; omega))
          have HFa := Lib.hid (HFb.out.step Fc (fun i e => by have := HAP.out.wt; omega))
          have hsa : B0 ≤ wc.heap.size := by have := Fc.size; omega
          clear Tc_ Fc hF0 HSb HTb HRb HOb HFb HGb HK HRN
          go_wp2_with fail
          refine (task_gate HTa.out).mono ?_
          rintro e wb ⟨rfl, Fb⟩
          have Bz6 : (wb.alloc (.cells #[.bool false, .bool false, .int .i64 0] 48)).heap[wb.heap.size]? = some (.cells #[.bool false, .bool false, .int .i64 0] 48 (0, 0)) := alloc_is _ rfl
          have Fz6 := (Fr.refl (fun _ => False) wb).alloc (.cells #[.bool false, .bool false, .int .i64 0] 48)
          generalize hwm6 : wb.alloc (.cells #[.bool false, .bool false, .int .i64 0] 48) = wm6 at Bz6 Fz6
          obtain ⟨c6_0, c6_1, c6_2⟩ := cells3 Bz6
          have z6_0 := frozen_of Bz6 0
          have z6_1 := frozen_of Bz6 1
          have z6_2 := frozen_of Bz6 2
          have B6 := put3y (y0 := .bool q0) (y1 := .bool q1) (y2 := .int .i64 q2) Bz6
          have Fo6 := (Fr.refl (fun i => i = wb.heap.size) wm6).put3 (b := wb.heap.size) (fun _ => rfl) (.bool q0) (.bool q1) (.int .i64 q2)
          generalize hwo6 : (((wm6.setCell ⟨wb.heap.size, 0, none⟩ (.bool q0)).setCell ⟨wb.heap.size, 1, none⟩ (.bool q1)).setCell ⟨wb.heap.size, 2, none⟩ (.int .i64 q2)) = wo6 at B6 Fo6
          have FF6 := Fz6.trans Fo6 (fun i hi (h : i = wb.heap.size) => by omega)
          obtain ⟨d6_0, d6_1, d6_2⟩ := cells3 B6
          have Fac := Fb.step FF6 nop
          have HFac := Lib.hid Fac
          have HTc := Lib.hid (HTa.out.fr Fac (fun x => x))
          have HGc := Lib.hid (Fac.at_ HGa.out (fun x => x))
          have HBc := Lib.hid B6
          obtain ⟨n0, n1, n2⟩ := Calm.cells3 HGc.out
          obtain ⟨h0, h1, h2⟩ := Calm.cells3 HBc.out
          have HQ := Lib.hid (fun n : Calm wo6 => task_on (HTc.out.fr n.fr (fun x => x)))
          clear Fac Fb
          go_wp2_with fail
          clear c6_0 z6_0 c6_1 z6_1 c6_2 z6_2 d6_0 d6_1 d6_2 Bz6 Fz6 Fo6 hwm6 hwo6
          clear B6 FF6
          (refine wp_region_calm (by kernel_rfl) (by kernel_rfl) ?_; (repeat (go_big_quiet_step ((go_at_call 18; exact Calm.of (v := .bool q0) (HQ.out _))))); refine wpQuiet_nil ?_; intro _ hwq0; obtain ⟨nq, hwq1⟩ := hwq0; subst hwq1)
          have Fd := nq.fr
          generalize nq.to = wd at Fd ⊢
          have Fad := HFac.out.step Fd nop
          have HRL : Hid (TrRel W s g sh bt rb gb K SG lim back DL SP B0 len (.slice A7 m7.length c7_) (.int .i64 t') (.int .i64 ((j : Int) + 1)) wd) := Lib.hid
            ⟨j + 1, t', m7, (q0, q1, q2), rfl, by push_cast; rfl, by omega, by omega, by omega, by omega, HSa.out.calm Fad, HOa.out.fr Fad (fun _ _ x => x), HTa.out.fr Fad (fun x => x), HBQ.out, Fad.at_ HGa.out (fun x => x), Fad.at_ HRa.out (fun x => x), HFa.out.step Fad nop, by have := Fad.size; omega⟩
          clear Fad Fd HFac HTc HGc HBc HQ n0 n1 n2 h0 h1 h2 HSa HTa HGa HRa HOa HFa
          go_wp2
          go_roundw
          case rel => exact HRL.out
          case measure => simp [intOf]; omega
        case false =>
          obtain ⟨q0, q1, q2⟩ := gt
          have HSa := HS9
          have HTa := HT9
          have HGa := HG9
          have HRa := HR9
          have HOa := HO9
          have HFa := HF9
          have HBQ := HBGT
          go_wp2_with fail
          refine (task_gate HTa.out).mono ?_
          rintro e wb ⟨rfl, Fb⟩
          have Bz6 : (wb.alloc (.cells #[.bool false, .bool false, .int .i64 0] 48)).heap[wb.heap.size]? = some (.cells #[.bool false, .bool false, .int .i64 0] 48 (0, 0)) := alloc_is _ rfl
          have Fz6 := (Fr.refl (fun _ => False) wb).alloc (.cells #[.bool false, .bool false, .int .i64 0] 48)
          generalize hwm6 : wb.alloc (.cells #[.bool false, .bool false, .int .i64 0] 48) = wm6 at Bz6 Fz6
          obtain ⟨c6_0, c6_1, c6_2⟩ := cells3 Bz6
          have z6_0 := frozen_of Bz6 0
          have z6_1 := frozen_of Bz6 1
          have z6_2 := frozen_of Bz6 2
          have B6 := put3y (y0 := .bool q0) (y1 := .bool q1) (y2 := .int .i64 q2) Bz6
          have Fo6 := (Fr.refl (fun i => i = wb.heap.size) wm6).put3 (b := wb.heap.size) (fun _ => rfl) (.bool q0) (.bool q1) (.int .i64 q2)
          generalize hwo6 : (((wm6.setCell ⟨wb.heap.size, 0, none⟩ (.bool q0)).setCell ⟨wb.heap.size, 1, none⟩ (.bool q1)).setCell ⟨wb.heap.size, 2, none⟩ (.int .i64 q2)) = wo6 at B6 Fo6
          have FF6 := Fz6.trans Fo6 (fun i hi (h : i = wb.heap.size) => by omega)
          obtain ⟨d6_0, d6_1, d6_2⟩ := cells3 B6
          have Fac := Fb.step FF6 nop
          have HFac := Lib.hid Fac
          have HTc := Lib.hid (HTa.out.fr Fac (fun x => x))
          have HGc := Lib.hid (Fac.at_ HGa.out (fun x => x))
          have HBc := Lib.hid B6
          obtain ⟨n0, n1, n2⟩ := Calm.cells3 HGc.out
          obtain ⟨h0, h1, h2⟩ := Calm.cells3 HBc.out
          have HQ := Lib.hid (fun n : Calm wo6 => task_on (HTc.out.fr n.fr (fun x => x)))
          clear Fac Fb
          go_wp2_with fail
          clear c6_0 z6_0 c6_1 z6_1 c6_2 z6_2 d6_0 d6_1 d6_2 Bz6 Fz6 Fo6 hwm6 hwo6
          clear B6 FF6
          (refine wp_region_calm (by kernel_rfl) (by kernel_rfl) ?_; (repeat (go_big_quiet_step ((go_at_call 18; exact Calm.of (v := .bool q0) (HQ.out _))))); refine wpQuiet_nil ?_; intro _ hwq0; obtain ⟨nq, hwq1⟩ := hwq0; subst hwq1)
          have Fd := nq.fr
          generalize nq.to = wd at Fd ⊢
          have Fad := HFac.out.step Fd nop
          have HRL : Hid (TrRel W s g sh bt rb gb K SG lim back DL SP B0 len (.slice A7 m7.length c7_) (.int .i64 t') (.int .i64 ((j : Int) + 1)) wd) := Lib.hid
            ⟨j + 1, t', m7, (q0, q1, q2), rfl, by push_cast; rfl, by omega, by omega, by omega, by omega, HSa.out.calm Fad, HOa.out.fr Fad (fun _ _ x => x), HTa.out.fr Fad (fun x => x), HBQ.out, Fad.at_ HGa.out (fun x => x), Fad.at_ HRa.out (fun x => x), HFa.out.step Fad nop, by have := Fad.size; omega⟩
          clear Fad Fd HFac HTc HGc HBc HQ n0 n1 n2 h0 h1 h2 HSa HTa HGa HRa HOa HFa
          go_wp2
          go_roundw
          case rel => exact HRL.out
          case measure => simp [intOf]; omega
      · have h3 : ¬ (j : Int) < (len : Int) := by omega
        clear Fj
        go_wp2
        go_ret
        exact ⟨rfl, HFj.out.below⟩
  · have e0 : (60 : Int) < (len : Int) := by omega
    go_enter Try.func3, Try.ntmps3
    go_wp2_with fail
    refine (bad_any _).mono ?_
    rintro e w1 ⟨rfl, F1⟩
    go_wp2_with fail
    refine (bad_any _).mono ?_
    rintro e w2 ⟨rfl, F2⟩
    have HF := Lib.hid (F1.step F2 nop)
    go_wp2
    go_ret
    exact ⟨rfl, HF.out.below⟩

end Go.Proofs.Ytbmhgkajjjiniaa
