/- TAp. -/
import Derived.Test.YtbmhgkajjjiniaaChecked
import Derived.WalkKit
import Derived.Laws.IdiomCopy
import Derived.Deep.QuietTactic
import Derived.BigQuiet
import Derived.Lib.Hide
import Derived.OpenShut
import Derived.StillTailTactics
import Derived.Deep.RegionWith
import Derived.Deep.RegionLaw
import Derived.Deep.Slices
import Derived.Deep.RegionHeld3
import Derived.OwnWalk
import Derived.Test.YtbmhgkajjjiniaaBase
import Derived.Test.YtbmhgkajjjiniaaCalm
import Derived.Test.YtbmhgkajjjiniaaCalmT
import Derived.Test.YtbmhgkajjjiniaaCel
import Derived.Test.YtbmhgkajjjiniaaApp
import Derived.Test.YtbmhgkajjjiniaaClk
import Derived.Test.YtbmhgkajjjiniaaRV
import Derived.Test.YtbmhgkajjjiniaaRVB
import Derived.Test.YtbmhgkajjjiniaaRVC
import Derived.Test.YtbmhgkajjjiniaaRVA
import Derived.Test.YtbmhgkajjjiniaaCeS
import Derived.Test.YtbmhgkajjjiniaaCeF
import Derived.Test.YtbmhgkajjjiniaaCeG
import Derived.Test.YtbmhgkajjjiniaaCeN
import Derived.Test.YtbmhgkajjjiniaaCeX
import Derived.Test.YtbmhgkajjjiniaaClkR
import Derived.Test.YtbmhgkajjjiniaaSn
import Derived.Test.YtbmhgkajjjiniaaSn2
import Derived.Test.YtbmhgkajjjiniaaCpL
import Derived.Test.YtbmhgkajjjiniaaCel9
import Derived.Test.YtbmhgkajjjiniaaTr
import Derived.Test.YtbmhgkajjjiniaaGCr
import Derived.Test.YtbmhgkajjjiniaaTCh
import Derived.Test.YtbmhgkajjjiniaaGSt
import Derived.Test.YtbmhgkajjjiniaaTOb
import Derived.Test.YtbmhgkajjjiniaaTTk
import Derived.Test.YtbmhgkajjjiniaaTBd
namespace Go.Proofs.Ytbmhgkajjjiniaa
open Go.RowKit
set_option linter.unusedVariables false
set_option linter.unusedSimpArgs false

/-! ### TaskApart -/
abbrev Tc := Int × Int × Int × Bool × Bool
def ETc : El Tc := ⟨fun y => [.int .u8 y.1, .int .u8 y.2.1, .int .i16 y.2.2.1, .bool y.2.2.2.1, .bool y.2.2.2.2], 5, fun _ => rfl, by omega, (0, 0, 0, false, false)⟩
theorem Reads.tc {w : World} {b o n : Nat} {xs : List Tc} (h : Reads ETc w (some ⟨b, o, none⟩) n xs) {k : Nat} (hk : k < n) {y0 y1 y2 y3 y4} (hy : xs.getD k ETc.z = (y0, y1, y2, y3, y4)) :
    w.cell? ⟨b, o + k * 5, none⟩ = some (.int .u8 y0) ∧ w.cell? ⟨b, o + k * 5 + 1, none⟩ = some (.int .u8 y1) ∧ w.cell? ⟨b, o + k * 5 + 2, none⟩ = some (.int .i16 y2) ∧ w.cell? ⟨b, o + k * 5 + 3, none⟩ = some (.bool y3) ∧ w.cell? ⟨b, o + k * 5 + 4, none⟩ = some (.bool y4) := by
  refine ⟨?_, ?_, ?_, ?_, ?_⟩
  · have := h.cellj (j := 0) hk (by decide); rw [hy] at this; exact this
  · have := h.cellj (j := 1) hk (by decide); rw [hy] at this; exact this
  · have := h.cellj (j := 2) hk (by decide); rw [hy] at this; exact this
  · have := h.cellj (j := 3) hk (by decide); rw [hy] at this; exact this
  · have := h.cellj (j := 4) hk (by decide); rw [hy] at this; exact this
def okTc (y : Tc) : Prop := (Lit.int .u8 y.1).wf = true ∧ (Lit.int .u8 y.2.1).wf = true ∧ (Lit.int .i16 y.2.2.1).wf = true ∧ True ∧ True
/-- Nothing is both so and well past. -/
def Apt (k lim bk : Int) : Prop := k = 1 ∧ bk ≤ lim ∨ k = 2 ∧ lim ≤ bk ∨ 3 ≤ k ∧ k ≤ 6 ∧ bk ≤ lim
theorem ob_apart {k x lim bk sp : Int} {ms : List Sn} {now : Int} (h : Apt k lim bk) {a b : Bool} (hr : ob k x lim bk sp ms now = (a, b)) : ¬ (a = true ∧ b = true) := by
  rintro ⟨rfl, rfl⟩
  unfold ob at hr
  rcases h with ⟨rfl, h⟩ | ⟨rfl, h⟩ | ⟨h1, h2, h⟩
  · rw [if_pos (.inl rfl)] at hr
    split at hr
    · unfold gcr at hr; rw [if_pos rfl] at hr
      simp only [Prod.mk.injEq, decide_eq_true_eq] at hr; omega
    · simp at hr
  · rw [if_pos (.inr rfl)] at hr
    split at hr
    · unfold gcr at hr; rw [if_neg (by omega), if_pos rfl] at hr
      simp only [Prod.mk.injEq, decide_eq_true_eq] at hr; omega
    · simp at hr
  · rw [if_neg (by omega)] at hr
    split at hr
    · split at hr
      · rename_i h3 _
        unfold crs at hr
        rcases h3 with rfl | rfl
        · rw [if_pos rfl] at hr
          simp only [Prod.mk.injEq, decide_eq_true_eq] at hr; omega
        · rw [if_neg (by omega), if_pos rfl] at hr
          simp only [Prod.mk.injEq, decide_eq_true_eq] at hr; omega
      · simp at hr
    · split at hr
      · simp at hr; omega
      · split at hr
        · (simp at hr; try (rw [hr.1] at hr; simp at hr))
        · simp at hr
def ApRel (W : World) (s g : Nat) (sh : List (Nat × Nat)) (rb : Nat) (k sg_ lim bk sp : Int) (n : Nat) (i : Value) (wr : World) : Prop :=
  ∃ (j : Nat) (ms : List Sn), i = .int .i64 j ∧ j ≤ n ∧ SI wr s g sh ms ∧ wr.heap[rb]? = some (.cells #[.int .u8 k, .int .i64 sg_, .int .i64 lim, .int .i64 bk, .int .i64 0, .int .i64 sp, .int .u8 0, .bool false, .slice none 0 0] 27 (0, 0)) ∧ Fr (fun _ => False) W wr
set_option maxRecDepth 100000 in
set_option maxHeartbeats 8000000 in
theorem apart1 (kind sig lim back span : Int) (A : Option Addr) (len cap : Nat) (zs : List Tc) (W : World) (hb0 : 0 ≤ kind ∧ kind ≤ 255) (hb1 : 0 ≤ sig ∧ sig ≤ 255) (hb2 : -32768 ≤ lim ∧ lim ≤ 32767) (hb3 : 0 ≤ back ∧ back ≤ 255) (hb4 : 0 ≤ span ∧ span ≤ 255) (hr : Reads ETc W A len zs) (hw : ∀ y, y ∈ zs → okTc y) (hn : len ≤ 60) (hk : 1 + kind % 6 = 1) :
    Calls Try.prog 4 #[.int .u8 kind, .int .u8 sig, .int .i16 lim, .int .u8 back, .int .u8 span, .slice A len cap] W fun e w' => e = .returned (.bool true) ∧ Below W.heap.size W w' := by
  have HL := Lib.hid hr.1
  have HW := Lib.hid hw
  have HRD := Lib.hid hr
  clear hw hr
  have e0 : ¬ (60 : Int) < (len : Int) := by omega
  obtain ⟨SG, hsg⟩ : ∃ x : Int, sig % 3 = x := ⟨_, rfl⟩
  obtain ⟨SP, hsp⟩ : ∃ x : Int, span % 20 = x := ⟨_, rfl⟩
  have HSP : Hid (BigI SP) := Lib.hid (by unfold BigI; omega)
  have HRU := Lib.hid (fun w => rule_any w 1 sig lim 0 0 span (by omega) hb1 hb2 (by omega) (by omega) hb4)
  have hk8 : (1 : Int) % 8 = 1 := by omega
  rw [hsg, hsp, hk8, show (0 : Int) % 12 = 0 from rfl] at HRU
  clear hk8
  have HAP : Hid (Apt 1 lim (lim - back)) := Lib.hid (by unfold Apt; omega)
  have HKK := Lib.hid hk
  clear hsg hsp hk
  go_enter Try.func4, Try.ntmps4
  go_wp2_with fail
  refine (bad_any _).mono ?_
  rintro e w1 ⟨rfl, F1⟩
  go_wp2_with fail
  try rw [HKK.out]
  refine (HRU.out _).mono ?_
  rintro e w2 ⟨rfl, F2⟩
  have F12 := F1.step F2 nop
  have Bz5 : (w2.alloc (.cells #[.int .u8 0, .int .i64 0, .int .i64 0, .int .i64 0, .int .i64 0, .int .i64 0, .int .u8 0, .bool false, .slice none 0 0] 27)).heap[w2.heap.size]? = some (.cells #[.int .u8 0, .int .i64 0, .int .i64 0, .int .i64 0, .int .i64 0, .int .i64 0, .int .u8 0, .bool false, .slice none 0 0] 27 (0, 0)) := alloc_is _ rfl
  have Fz5 := (Fr.refl (fun _ => False) w2).alloc (.cells #[.int .u8 0, .int .i64 0, .int .i64 0, .int .i64 0, .int .i64 0, .int .i64 0, .int .u8 0, .bool false, .slice none 0 0] 27)
  generalize hwm5 : w2.alloc (.cells #[.int .u8 0, .int .i64 0, .int .i64 0, .int .i64 0, .int .i64 0, .int .i64 0, .int .u8 0, .bool false, .slice none 0 0] 27) = wm5 at Bz5 Fz5
  obtain ⟨c5_0, c5_1, c5_2, c5_3, c5_4, c5_5, c5_6, c5_7, c5_8⟩ := cells9 Bz5
  have z5_0 := frozen_of Bz5 0
  have z5_1 := frozen_of Bz5 1
  have z5_2 := frozen_of Bz5 2
  have z5_3 := frozen_of Bz5 3
  have z5_4 := frozen_of Bz5 4
  have z5_5 := frozen_of Bz5 5
  have z5_6 := frozen_of Bz5 6
  have z5_7 := frozen_of Bz5 7
  have z5_8 := frozen_of Bz5 8
  have B5 := put9 (y0 := .int .u8 1) (y1 := .int .i64 SG) (y2 := .int .i64 lim) (y3 := .int .i64 0) (y4 := .int .i64 0) (y5 := .int .i64 SP) (y6 := .int .u8 0) (y7 := .bool false) (y8 := .slice none 0 0) Bz5
  have Fo5 := (Fr.refl (fun i => i = w2.heap.size) wm5).put9 (b := w2.heap.size) (fun _ => rfl) (.int .u8 1) (.int .i64 SG) (.int .i64 lim) (.int .i64 0) (.int .i64 0) (.int .i64 SP) (.int .u8 0) (.bool false) (.slice none 0 0)
  generalize hwo5 : (((((((((wm5.setCell ⟨w2.heap.size, 0, none⟩ (.int .u8 1)).setCell ⟨w2.heap.size, 1, none⟩ (.int .i64 SG)).setCell ⟨w2.heap.size, 2, none⟩ (.int .i64 lim)).setCell ⟨w2.heap.size, 3, none⟩ (.int .i64 0)).setCell ⟨w2.heap.size, 4, none⟩ (.int .i64 0)).setCell ⟨w2.heap.size, 5, none⟩ (.int .i64 SP)).setCell ⟨w2.heap.size, 6, none⟩ (.int .u8 0)).setCell ⟨w2.heap.size, 7, none⟩ (.bool false)).setCell ⟨w2.heap.size, 8, none⟩ (.slice none 0 0)) = wo5 at B5 Fo5
  have FF5 := Fz5.trans Fo5 (fun i hi (h : i = w2.heap.size) => by omega)
  obtain ⟨d5_0, d5_1, d5_2, d5_3, d5_4, d5_5, d5_6, d5_7, d5_8⟩ := cells9 B5
  have HF2 := Lib.hid (F12.step FF5 nop)
  have HRW : Hid (W.heap.size ≤ w2.heap.size) := Lib.hid F12.size
  have k0 := frozen_of B5 3
  have By0 := set_at B5 3 (.int .i64 (lim - back))
  have Fy0 := Fr.setCell HF2.out (p := ⟨w2.heap.size, 3, none⟩) (fun (h : w2.heap.size < W.heap.size) => absurd h (by have := HRW.out; omega)) (.int .i64 (lim - back))
  generalize hwy0 : wo5.setCell ⟨w2.heap.size, 3, none⟩ (.int .i64 (lim - back)) = wy0 at By0 Fy0
  replace By0 : wy0.heap[w2.heap.size]? = some (.cells #[.int .u8 1, .int .i64 SG, .int .i64 lim, .int .i64 (lim - back), .int .i64 0, .int .i64 SP, .int .u8 0, .bool false, .slice none 0 0] 27 (0, 0)) := By0
  obtain ⟨p0_0, p0_1, p0_2, p0_3, p0_4, p0_5, p0_6, p0_7, p0_8⟩ := cells9 By0
  have HR5 := Lib.hid By0
  have HFz := Lib.hid Fy0
  have hrb : w2.heap.size < wy0.heap.size := lt_of By0
  have HHP := Lib.hid hrb
  clear hrb
  go_wp2_with fail
  refine (si_new _ 3 (N := 3) rfl).mono ?_
  rintro e w5 ⟨s, g, sh, rfl, hsl, S5, F5, hup⟩
  clear k0 hwy0 p0_0 p0_1 p0_2 p0_3 p0_4 p0_5 p0_6 p0_7 p0_8 By0 Fy0
  clear c5_0 z5_0 c5_1 z5_1 c5_2 z5_2 c5_3 z5_3 c5_4 z5_4 c5_5 z5_5 c5_6 z5_6 c5_7 z5_7 c5_8 z5_8 d5_0 d5_1 d5_2 d5_3 d5_4 d5_5 d5_6 d5_7 d5_8 Bz5 Fz5 Fo5 hwm5 hwo5
  clear FF5 B5 F12 F1 F2
  have HUP : Hid (∀ i, inSt s g sh i → W.heap.size ≤ i) := Lib.hid (fun i hi => Nat.le_trans HFz.out.size (hup i hi))
  have HNR0 : Hid (¬ inSt s g sh w2.heap.size) := Lib.hid (fun h => by have := hup _ h; have := HHP.out; omega)
  have HSL := Lib.hid hsl
  have HRL0 : Hid (ApRel W s g sh w2.heap.size 1 SG lim (lim - back) SP len (.int .i64 0) w5) := Lib.hid ⟨0, _, rfl, Nat.zero_le _, S5, F5.at_ HR5.out (fun x => x), HFz.out.step F5 nop⟩
  clear hup hsl S5 F5 HR5 HFz HHP HRW HRU HF2
  obtain ⟨rb, hrb⟩ : ∃ rb, w2.heap.size = rb := ⟨_, rfl⟩
  have HNR : Hid (¬ inSt s g sh rb) := Lib.hid (by rw [← hrb]; exact HNR0.out)
  have HRL : Hid (ApRel W s g sh rb 1 SG lim (lim - back) SP len (.int .i64 0) w5) := Lib.hid (by rw [← hrb]; exact HRL0.out)
  clear HNR0 HRL0
  go_wp2_with fail
  try rw [hrb]
  clear hrb
  go_loopw [15] (fun i wr => ApRel W s g sh rb 1 SG lim (lim - back) SP len i wr) (fun i _ => len - (intOf i).toNat)
  case atStart => exact HRL.out
  case round =>
    clear HRL
    obtain ⟨j, ms, rfl, hj, Sj, Rj, Fj⟩ := hrel
    by_cases hlt : j < len
    · have rz := HRD.out.fr Fj (fun _ _ x => x)
      obtain ⟨zb, zo, rfl, hzb⟩ := rz.plain (by omega)
      have hwf := HW.out (zs.getD j ETc.z) (by have := HL.out; simp [List.getD_eq_getElem?_getD, this, hlt])
      obtain ⟨y, hy⟩ : ∃ y, zs.getD j ETc.z = y := ⟨_, rfl⟩
      rw [hy] at hwf
      obtain ⟨y0, y1, y2, y3, y4⟩ := y
      have b0 : 0 ≤ y0 ∧ y0 ≤ 255 := bounds_u8 hwf.1
      have b1 : 0 ≤ y1 ∧ y1 ≤ 255 := bounds_u8 hwf.2.1
      have b2 : -32768 ≤ y2 ∧ y2 ≤ 32767 := bounds_i16 hwf.2.2.1
      obtain ⟨l0, l1, l2, l3, l4⟩ := rz.tc hlt hy
      have hlt' : (j : Int) < (len : Int) := by omega
      have HRZ := Lib.hid rz
      have HYY := Lib.hid hy
      have HSj := Lib.hid Sj
      have HRj := Lib.hid Rj
      have HFj := Lib.hid Fj
      clear hwf hy Sj Rj Fj rz l0 l4
      obtain ⟨x, hx⟩ : ∃ x : Int, y1 % 3 = x := ⟨_, rfl⟩
      have hx3 : 0 ≤ x ∧ x < 3 := by omega
      have HX3 := Lib.hid hx3
      have g1 : IntKind.i64.wrap (y1.tmod 3) = x := by rw [Int.tmod_eq_emod_of_nonneg b1.1, hx]; exact IntWalk.i64_in _ (by omega)
      have g2 : IntKind.i64.wrap y2 = y2 := IntWalk.i64_in _ (by omega)
      have HG1 := Lib.hid g1
      have HG2 := Lib.hid g2
      have HBJ : Hid (BigI (j : Int)) := Lib.hid (by unfold BigI; omega)
      have HBT : Hid (BigI ((j : Int) + y0)) := Lib.hid (by unfold BigI; omega)
      have HY2 : Hid (-2147483648 ≤ y2 ∧ y2 ≤ 2147483647) := Lib.hid (by omega)
      clear hx hx3
      go_wp2_with fail
      go_still_tail 21, (by kernel_rfl)
      change wpList _ _ _ _ _ wr.drew
      try rw [HG1.out]
      try rw [HG2.out]
      have HSd := Lib.hid (HSj.out.calm ((Fr.refl (fun _ => False) wr).drew))
      have HRd := Lib.hid (((Fr.refl (fun _ => False) wr).drew).at_ HRj.out (fun x => x))
      have HFd := Lib.hid (HFj.out.drew)
      clear HSj HRj HFj g1 g2 l1 l2 l3
      generalize wr.drew = wd at HSd HRd HFd ⊢
      go_wp2_with fail
      refine (si_put HSd.out x (j : Int) 0 y2 y3 (by have := HSL.out; have := HX3.out; omega) HBJ.out HY2.out).mono ?_
      rintro e w3 ⟨rfl, S3, F3⟩
      have hnr := HNR.out
      have HR3 := Lib.hid (F3.at_ HRd.out hnr)
      have HF3 := Lib.hid (HFd.out.step F3 HUP.out)
      have HS3 := Lib.hid S3
      clear S3 F3 HSd HRd HFd hnr
      obtain ⟨r, hrr⟩ : ∃ r, ob 1 SG lim (lim - back) SP (ms ++ [((j : Int), x, 0, y2, y3)]) ((j : Int) + y0) = r := ⟨_, rfl⟩
      obtain ⟨ra, rb_⟩ := r
      have HNA := Lib.hid (ob_apart HAP.out hrr)
      have HQ := Lib.hid (fun n : Calm w3 => obs_si (HS3.out.calm n.fr) 1 SG lim (lim - back) 0 SP 0 false none 0 0 ((j : Int) + y0) HBT.out HSP.out hrr)
      clear hrr
      obtain ⟨n0, n1, n2, n3, n4, n5, n6, n7, n8⟩ := Calm.cells9 HR3.out
      have m0 : ∀ n : Calm w3, n.to.cell? ⟨zb, zo + j * 5, none⟩ = some (.int .u8 y0) := fun n => ((((HRD.out.fr HF3.out (fun _ _ x => x)).fr n.fr (fun _ _ x => x))).tc hlt HYY.out).1
      have g3 : IntKind.i64.wrap ((j : Int) + y0) = (j : Int) + y0 := IntWalk.i64_in _ (by omega)
      have g4 : IntKind.i64.wrap y0 = y0 := IntWalk.i64_in _ (by omega)
      have g5 : wrap64 ((j : Int) + y0) = (j : Int) + y0 := IntWalk.wrap64_in _ (by omega)
      have g6 : wrap64 y0 = y0 := IntWalk.wrap64_in _ (by omega)
      go_wp2_with fail
      (refine wp_region_calm (by kernel_rfl) (by kernel_rfl) ?_; (repeat (go_big_quiet_step ((go_at_call 13; exact Calm.of (v := .tuple #[.bool ra, .bool rb_]) (HQ.out _))))); refine wpQuiet_nil ?_; intro _ hwq0; obtain ⟨nq, hwq1⟩ := hwq0; subst hwq1)
      have F4 := nq.fr
      generalize nq.to = w4 at F4 ⊢
      have HRL : Hid (ApRel W s g sh rb 1 SG lim (lim - back) SP len (.int .i64 ((j : Int) + 1)) w4) := Lib.hid ⟨j + 1, _, by push_cast; rfl, by omega, HS3.out.calm F4, F4.at_ HR3.out (fun x => x), HF3.out.step F4 nop⟩
      clear F4 HS3 HR3 HF3 HQ n0 n1 n2 n3 n4 n5 n6 n7 n8 m0 g3 g4 g5 g6
      cases ra <;> cases rb_
      case true.true => exact absurd ⟨rfl, rfl⟩ HNA.out
      all_goals
        go_wp2
        go_roundw
        case rel => exact HRL.out
        case measure => simp [intOf]; omega
    · have h3 : ¬ (j : Int) < (len : Int) := by omega
      have HF := Lib.hid Fj
      clear Sj Rj Fj
      go_wp2
      go_ret
      exact ⟨rfl, HF.out.below⟩
set_option maxRecDepth 100000 in
set_option maxHeartbeats 8000000 in
theorem apart2 (kind sig lim back span : Int) (A : Option Addr) (len cap : Nat) (zs : List Tc) (W : World) (hb0 : 0 ≤ kind ∧ kind ≤ 255) (hb1 : 0 ≤ sig ∧ sig ≤ 255) (hb2 : -32768 ≤ lim ∧ lim ≤ 32767) (hb3 : 0 ≤ back ∧ back ≤ 255) (hb4 : 0 ≤ span ∧ span ≤ 255) (hr : Reads ETc W A len zs) (hw : ∀ y, y ∈ zs → okTc y) (hn : len ≤ 60) (hk : 1 + kind % 6 = 2) :
    Calls Try.prog 4 #[.int .u8 kind, .int .u8 sig, .int .i16 lim, .int .u8 back, .int .u8 span, .slice A len cap] W fun e w' => e = .returned (.bool true) ∧ Below W.heap.size W w' := by
  have HL := Lib.hid hr.1
  have HW := Lib.hid hw
  have HRD := Lib.hid hr
  clear hw hr
  have e0 : ¬ (60 : Int) < (len : Int) := by omega
  obtain ⟨SG, hsg⟩ : ∃ x : Int, sig % 3 = x := ⟨_, rfl⟩
  obtain ⟨SP, hsp⟩ : ∃ x : Int, span % 20 = x := ⟨_, rfl⟩
  have HSP : Hid (BigI SP) := Lib.hid (by unfold BigI; omega)
  have HRU := Lib.hid (fun w => rule_any w 2 sig lim 0 0 span (by omega) hb1 hb2 (by omega) (by omega) hb4)
  have hk8 : (2 : Int) % 8 = 2 := by omega
  rw [hsg, hsp, hk8, show (0 : Int) % 12 = 0 from rfl] at HRU
  clear hk8
  have HAP : Hid (Apt 2 lim (lim + back)) := Lib.hid (by unfold Apt; omega)
  have HKK := Lib.hid hk
  clear hsg hsp hk
  go_enter Try.func4, Try.ntmps4
  go_wp2_with fail
  refine (bad_any _).mono ?_
  rintro e w1 ⟨rfl, F1⟩
  go_wp2_with fail
  try rw [HKK.out]
  refine (HRU.out _).mono ?_
  rintro e w2 ⟨rfl, F2⟩
  have F12 := F1.step F2 nop
  have Bz5 : (w2.alloc (.cells #[.int .u8 0, .int .i64 0, .int .i64 0, .int .i64 0, .int .i64 0, .int .i64 0, .int .u8 0, .bool false, .slice none 0 0] 27)).heap[w2.heap.size]? = some (.cells #[.int .u8 0, .int .i64 0, .int .i64 0, .int .i64 0, .int .i64 0, .int .i64 0, .int .u8 0, .bool false, .slice none 0 0] 27 (0, 0)) := alloc_is _ rfl
  have Fz5 := (Fr.refl (fun _ => False) w2).alloc (.cells #[.int .u8 0, .int .i64 0, .int .i64 0, .int .i64 0, .int .i64 0, .int .i64 0, .int .u8 0, .bool false, .slice none 0 0] 27)
  generalize hwm5 : w2.alloc (.cells #[.int .u8 0, .int .i64 0, .int .i64 0, .int .i64 0, .int .i64 0, .int .i64 0, .int .u8 0, .bool false, .slice none 0 0] 27) = wm5 at Bz5 Fz5
  obtain ⟨c5_0, c5_1, c5_2, c5_3, c5_4, c5_5, c5_6, c5_7, c5_8⟩ := cells9 Bz5
  have z5_0 := frozen_of Bz5 0
  have z5_1 := frozen_of Bz5 1
  have z5_2 := frozen_of Bz5 2
  have z5_3 := frozen_of Bz5 3
  have z5_4 := frozen_of Bz5 4
  have z5_5 := frozen_of Bz5 5
  have z5_6 := frozen_of Bz5 6
  have z5_7 := frozen_of Bz5 7
  have z5_8 := frozen_of Bz5 8
  have B5 := put9 (y0 := .int .u8 2) (y1 := .int .i64 SG) (y2 := .int .i64 lim) (y3 := .int .i64 0) (y4 := .int .i64 0) (y5 := .int .i64 SP) (y6 := .int .u8 0) (y7 := .bool false) (y8 := .slice none 0 0) Bz5
  have Fo5 := (Fr.refl (fun i => i = w2.heap.size) wm5).put9 (b := w2.heap.size) (fun _ => rfl) (.int .u8 2) (.int .i64 SG) (.int .i64 lim) (.int .i64 0) (.int .i64 0) (.int .i64 SP) (.int .u8 0) (.bool false) (.slice none 0 0)
  generalize hwo5 : (((((((((wm5.setCell ⟨w2.heap.size, 0, none⟩ (.int .u8 2)).setCell ⟨w2.heap.size, 1, none⟩ (.int .i64 SG)).setCell ⟨w2.heap.size, 2, none⟩ (.int .i64 lim)).setCell ⟨w2.heap.size, 3, none⟩ (.int .i64 0)).setCell ⟨w2.heap.size, 4, none⟩ (.int .i64 0)).setCell ⟨w2.heap.size, 5, none⟩ (.int .i64 SP)).setCell ⟨w2.heap.size, 6, none⟩ (.int .u8 0)).setCell ⟨w2.heap.size, 7, none⟩ (.bool false)).setCell ⟨w2.heap.size, 8, none⟩ (.slice none 0 0)) = wo5 at B5 Fo5
  have FF5 := Fz5.trans Fo5 (fun i hi (h : i = w2.heap.size) => by omega)
  obtain ⟨d5_0, d5_1, d5_2, d5_3, d5_4, d5_5, d5_6, d5_7, d5_8⟩ := cells9 B5
  have HF2 := Lib.hid (F12.step FF5 nop)
  have HRW : Hid (W.heap.size ≤ w2.heap.size) := Lib.hid F12.size
  have k0 := frozen_of B5 3
  have By0 := set_at B5 3 (.int .i64 (lim + back))
  have Fy0 := Fr.setCell HF2.out (p := ⟨w2.heap.size, 3, none⟩) (fun (h : w2.heap.size < W.heap.size) => absurd h (by have := HRW.out; omega)) (.int .i64 (lim + back))
  generalize hwy0 : wo5.setCell ⟨w2.heap.size, 3, none⟩ (.int .i64 (lim + back)) = wy0 at By0 Fy0
  replace By0 : wy0.heap[w2.heap.size]? = some (.cells #[.int .u8 2, .int .i64 SG, .int .i64 lim, .int .i64 (lim + back), .int .i64 0, .int .i64 SP, .int .u8 0, .bool false, .slice none 0 0] 27 (0, 0)) := By0
  obtain ⟨p0_0, p0_1, p0_2, p0_3, p0_4, p0_5, p0_6, p0_7, p0_8⟩ := cells9 By0
  have HR5 := Lib.hid By0
  have HFz := Lib.hid Fy0
  have hrb : w2.heap.size < wy0.heap.size := lt_of By0
  have HHP := Lib.hid hrb
  clear hrb
  go_wp2_with fail
  refine (si_new _ 3 (N := 3) rfl).mono ?_
  rintro e w5 ⟨s, g, sh, rfl, hsl, S5, F5, hup⟩
  clear k0 hwy0 p0_0 p0_1 p0_2 p0_3 p0_4 p0_5 p0_6 p0_7 p0_8 By0 Fy0
  clear c5_0 z5_0 c5_1 z5_1 c5_2 z5_2 c5_3 z5_3 c5_4 z5_4 c5_5 z5_5 c5_6 z5_6 c5_7 z5_7 c5_8 z5_8 d5_0 d5_1 d5_2 d5_3 d5_4 d5_5 d5_6 d5_7 d5_8 Bz5 Fz5 Fo5 hwm5 hwo5
  clear FF5 B5 F12 F1 F2
  have HUP : Hid (∀ i, inSt s g sh i → W.heap.size ≤ i) := Lib.hid (fun i hi => Nat.le_trans HFz.out.size (hup i hi))
  have HNR0 : Hid (¬ inSt s g sh w2.heap.size) := Lib.hid (fun h => by have := hup _ h; have := HHP.out; omega)
  have HSL := Lib.hid hsl
  have HRL0 : Hid (ApRel W s g sh w2.heap.size 2 SG lim (lim + back) SP len (.int .i64 0) w5) := Lib.hid ⟨0, _, rfl, Nat.zero_le _, S5, F5.at_ HR5.out (fun x => x), HFz.out.step F5 nop⟩
  clear hup hsl S5 F5 HR5 HFz HHP HRW HRU HF2
  obtain ⟨rb, hrb⟩ : ∃ rb, w2.heap.size = rb := ⟨_, rfl⟩
  have HNR : Hid (¬ inSt s g sh rb) := Lib.hid (by rw [← hrb]; exact HNR0.out)
  have HRL : Hid (ApRel W s g sh rb 2 SG lim (lim + back) SP len (.int .i64 0) w5) := Lib.hid (by rw [← hrb]; exact HRL0.out)
  clear HNR0 HRL0
  go_wp2_with fail
  try rw [hrb]
  clear hrb
  go_loopw [15] (fun i wr => ApRel W s g sh rb 2 SG lim (lim + back) SP len i wr) (fun i _ => len - (intOf i).toNat)
  case atStart => exact HRL.out
  case round =>
    clear HRL
    obtain ⟨j, ms, rfl, hj, Sj, Rj, Fj⟩ := hrel
    by_cases hlt : j < len
    · have rz := HRD.out.fr Fj (fun _ _ x => x)
      obtain ⟨zb, zo, rfl, hzb⟩ := rz.plain (by omega)
      have hwf := HW.out (zs.getD j ETc.z) (by have := HL.out; simp [List.getD_eq_getElem?_getD, this, hlt])
      obtain ⟨y, hy⟩ : ∃ y, zs.getD j ETc.z = y := ⟨_, rfl⟩
      rw [hy] at hwf
      obtain ⟨y0, y1, y2, y3, y4⟩ := y
      have b0 : 0 ≤ y0 ∧ y0 ≤ 255 := bounds_u8 hwf.1
      have b1 : 0 ≤ y1 ∧ y1 ≤ 255 := bounds_u8 hwf.2.1
      have b2 : -32768 ≤ y2 ∧ y2 ≤ 32767 := bounds_i16 hwf.2.2.1
      obtain ⟨l0, l1, l2, l3, l4⟩ := rz.tc hlt hy
      have hlt' : (j : Int) < (len : Int) := by omega
      have HRZ := Lib.hid rz
      have HYY := Lib.hid hy
      have HSj := Lib.hid Sj
      have HRj := Lib.hid Rj
      have HFj := Lib.hid Fj
      clear hwf hy Sj Rj Fj rz l0 l4
      obtain ⟨x, hx⟩ : ∃ x : Int, y1 % 3 = x := ⟨_, rfl⟩
      have hx3 : 0 ≤ x ∧ x < 3 := by omega
      have HX3 := Lib.hid hx3
      have g1 : IntKind.i64.wrap (y1.tmod 3) = x := by rw [Int.tmod_eq_emod_of_nonneg b1.1, hx]; exact IntWalk.i64_in _ (by omega)
      have g2 : IntKind.i64.wrap y2 = y2 := IntWalk.i64_in _ (by omega)
      have HG1 := Lib.hid g1
      have HG2 := Lib.hid g2
      have HBJ : Hid (BigI (j : Int)) := Lib.hid (by unfold BigI; omega)
      have HBT : Hid (BigI ((j : Int) + y0)) := Lib.hid (by unfold BigI; omega)
      have HY2 : Hid (-2147483648 ≤ y2 ∧ y2 ≤ 2147483647) := Lib.hid (by omega)
      clear hx hx3
      go_wp2_with fail
      go_still_tail 21, (by kernel_rfl)
      change wpList _ _ _ _ _ wr.drew
      try rw [HG1.out]
      try rw [HG2.out]
      have HSd := Lib.hid (HSj.out.calm ((Fr.refl (fun _ => False) wr).drew))
      have HRd := Lib.hid (((Fr.refl (fun _ => False) wr).drew).at_ HRj.out (fun x => x))
      have HFd := Lib.hid (HFj.out.drew)
      clear HSj HRj HFj g1 g2 l1 l2 l3
      generalize wr.drew = wd at HSd HRd HFd ⊢
      go_wp2_with fail
      refine (si_put HSd.out x (j : Int) 0 y2 y3 (by have := HSL.out; have := HX3.out; omega) HBJ.out HY2.out).mono ?_
      rintro e w3 ⟨rfl, S3, F3⟩
      have hnr := HNR.out
      have HR3 := Lib.hid (F3.at_ HRd.out hnr)
      have HF3 := Lib.hid (HFd.out.step F3 HUP.out)
      have HS3 := Lib.hid S3
      clear S3 F3 HSd HRd HFd hnr
      obtain ⟨r, hrr⟩ : ∃ r, ob 2 SG lim (lim + back) SP (ms ++ [((j : Int), x, 0, y2, y3)]) ((j : Int) + y0) = r := ⟨_, rfl⟩
      obtain ⟨ra, rb_⟩ := r
      have HNA := Lib.hid (ob_apart HAP.out hrr)
      have HQ := Lib.hid (fun n : Calm w3 => obs_si (HS3.out.calm n.fr) 2 SG lim (lim + back) 0 SP 0 false none 0 0 ((j : Int) + y0) HBT.out HSP.out hrr)
      clear hrr
      obtain ⟨n0, n1, n2, n3, n4, n5, n6, n7, n8⟩ := Calm.cells9 HR3.out
      have m0 : ∀ n : Calm w3, n.to.cell? ⟨zb, zo + j * 5, none⟩ = some (.int .u8 y0) := fun n => ((((HRD.out.fr HF3.out (fun _ _ x => x)).fr n.fr (fun _ _ x => x))).tc hlt HYY.out).1
      have g3 : IntKind.i64.wrap ((j : Int) + y0) = (j : Int) + y0 := IntWalk.i64_in _ (by omega)
      have g4 : IntKind.i64.wrap y0 = y0 := IntWalk.i64_in _ (by omega)
      have g5 : wrap64 ((j : Int) + y0) = (j : Int) + y0 := IntWalk.wrap64_in _ (by omega)
      have g6 : wrap64 y0 = y0 := IntWalk.wrap64_in _ (by omega)
      go_wp2_with fail
      (refine wp_region_calm (by kernel_rfl) (by kernel_rfl) ?_; (repeat (go_big_quiet_step ((go_at_call 13; exact Calm.of (v := .tuple #[.bool ra, .bool rb_]) (HQ.out _))))); refine wpQuiet_nil ?_; intro _ hwq0; obtain ⟨nq, hwq1⟩ := hwq0; subst hwq1)
      have F4 := nq.fr
      generalize nq.to = w4 at F4 ⊢
      have HRL : Hid (ApRel W s g sh rb 2 SG lim (lim + back) SP len (.int .i64 ((j : Int) + 1)) w4) := Lib.hid ⟨j + 1, _, by push_cast; rfl, by omega, HS3.out.calm F4, F4.at_ HR3.out (fun x => x), HF3.out.step F4 nop⟩
      clear F4 HS3 HR3 HF3 HQ n0 n1 n2 n3 n4 n5 n6 n7 n8 m0 g3 g4 g5 g6
      cases ra <;> cases rb_
      case true.true => exact absurd ⟨rfl, rfl⟩ HNA.out
      all_goals
        go_wp2
        go_roundw
        case rel => exact HRL.out
        case measure => simp [intOf]; omega
    · have h3 : ¬ (j : Int) < (len : Int) := by omega
      have HF := Lib.hid Fj
      clear Sj Rj Fj
      go_wp2
      go_ret
      exact ⟨rfl, HF.out.below⟩
set_option maxRecDepth 100000 in
set_option maxHeartbeats 8000000 in
theorem apart3 (kind sig lim back span : Int) (A : Option Addr) (len cap : Nat) (zs : List Tc) (W : World) (hb0 : 0 ≤ kind ∧ kind ≤ 255) (hb1 : 0 ≤ sig ∧ sig ≤ 255) (hb2 : -32768 ≤ lim ∧ lim ≤ 32767) (hb3 : 0 ≤ back ∧ back ≤ 255) (hb4 : 0 ≤ span ∧ span ≤ 255) (hr : Reads ETc W A len zs) (hw : ∀ y, y ∈ zs → okTc y) (hn : len ≤ 60) {k : Int} (hk : 1 + kind % 6 = k) (hk3 : 3 ≤ k ∧ k ≤ 6) (hl : 1 ≤ lim) :
    Calls Try.prog 4 #[.int .u8 kind, .int .u8 sig, .int .i16 lim, .int .u8 back, .int .u8 span, .slice A len cap] W fun e w' => e = .returned (.bool true) ∧ Below W.heap.size W w' := by
  have HL := Lib.hid hr.1
  have HW := Lib.hid hw
  have HRD := Lib.hid hr
  clear hw hr
  have e0 : ¬ (60 : Int) < (len : Int) := by omega
  obtain ⟨SG, hsg⟩ : ∃ x : Int, sig % 3 = x := ⟨_, rfl⟩
  obtain ⟨SP, hsp⟩ : ∃ x : Int, span % 20 = x := ⟨_, rfl⟩
  have HSP : Hid (BigI SP) := Lib.hid (by unfold BigI; omega)
  have j1 : (k == 1) = false := by simp; omega
  have j2 : (k == 2) = false := by simp; omega
  obtain ⟨q, hq⟩ : ∃ q, back % (lim + 1) = q := ⟨_, rfl⟩
  have hq0 := Int.emod_nonneg back (show lim + 1 ≠ 0 by omega)
  have hq1 := Int.emod_lt_of_pos back (show 0 < lim + 1 by omega)
  rw [hq] at hq0 hq1
  have e1 : ((lim + 1) == 0) = false := by simp; omega
  have e2 : Int.tmod back (lim + 1) = q := by rw [Int.tmod_eq_emod_of_nonneg hb3.1]; exact hq
  have e3 : back % (lim + 1) = q := hq
  clear hq
  have HRU := Lib.hid (fun w => rule_any w k sig lim 0 0 span (by omega) hb1 hb2 (by omega) (by omega) hb4)
  have hk8 : (k : Int) % 8 = k := by omega
  rw [hsg, hsp, hk8, show (0 : Int) % 12 = 0 from rfl] at HRU
  clear hk8
  have HAP : Hid (Apt k lim q) := Lib.hid (by unfold Apt; omega)
  have HKK := Lib.hid hk
  clear hsg hsp hk
  go_enter Try.func4, Try.ntmps4
  go_wp2_with fail
  refine (bad_any _).mono ?_
  rintro e w1 ⟨rfl, F1⟩
  go_wp2_with fail
  try rw [HKK.out]
  refine (HRU.out _).mono ?_
  rintro e w2 ⟨rfl, F2⟩
  have F12 := F1.step F2 nop
  have Bz5 : (w2.alloc (.cells #[.int .u8 0, .int .i64 0, .int .i64 0, .int .i64 0, .int .i64 0, .int .i64 0, .int .u8 0, .bool false, .slice none 0 0] 27)).heap[w2.heap.size]? = some (.cells #[.int .u8 0, .int .i64 0, .int .i64 0, .int .i64 0, .int .i64 0, .int .i64 0, .int .u8 0, .bool false, .slice none 0 0] 27 (0, 0)) := alloc_is _ rfl
  have Fz5 := (Fr.refl (fun _ => False) w2).alloc (.cells #[.int .u8 0, .int .i64 0, .int .i64 0, .int .i64 0, .int .i64 0, .int .i64 0, .int .u8 0, .bool false, .slice none 0 0] 27)
  generalize hwm5 : w2.alloc (.cells #[.int .u8 0, .int .i64 0, .int .i64 0, .int .i64 0, .int .i64 0, .int .i64 0, .int .u8 0, .bool false, .slice none 0 0] 27) = wm5 at Bz5 Fz5
  obtain ⟨c5_0, c5_1, c5_2, c5_3, c5_4, c5_5, c5_6, c5_7, c5_8⟩ := cells9 Bz5
  have z5_0 := frozen_of Bz5 0
  have z5_1 := frozen_of Bz5 1
  have z5_2 := frozen_of Bz5 2
  have z5_3 := frozen_of Bz5 3
  have z5_4 := frozen_of Bz5 4
  have z5_5 := frozen_of Bz5 5
  have z5_6 := frozen_of Bz5 6
  have z5_7 := frozen_of Bz5 7
  have z5_8 := frozen_of Bz5 8
  have B5 := put9 (y0 := .int .u8 k) (y1 := .int .i64 SG) (y2 := .int .i64 lim) (y3 := .int .i64 0) (y4 := .int .i64 0) (y5 := .int .i64 SP) (y6 := .int .u8 0) (y7 := .bool false) (y8 := .slice none 0 0) Bz5
  have Fo5 := (Fr.refl (fun i => i = w2.heap.size) wm5).put9 (b := w2.heap.size) (fun _ => rfl) (.int .u8 k) (.int .i64 SG) (.int .i64 lim) (.int .i64 0) (.int .i64 0) (.int .i64 SP) (.int .u8 0) (.bool false) (.slice none 0 0)
  generalize hwo5 : (((((((((wm5.setCell ⟨w2.heap.size, 0, none⟩ (.int .u8 k)).setCell ⟨w2.heap.size, 1, none⟩ (.int .i64 SG)).setCell ⟨w2.heap.size, 2, none⟩ (.int .i64 lim)).setCell ⟨w2.heap.size, 3, none⟩ (.int .i64 0)).setCell ⟨w2.heap.size, 4, none⟩ (.int .i64 0)).setCell ⟨w2.heap.size, 5, none⟩ (.int .i64 SP)).setCell ⟨w2.heap.size, 6, none⟩ (.int .u8 0)).setCell ⟨w2.heap.size, 7, none⟩ (.bool false)).setCell ⟨w2.heap.size, 8, none⟩ (.slice none 0 0)) = wo5 at B5 Fo5
  have FF5 := Fz5.trans Fo5 (fun i hi (h : i = w2.heap.size) => by omega)
  obtain ⟨d5_0, d5_1, d5_2, d5_3, d5_4, d5_5, d5_6, d5_7, d5_8⟩ := cells9 B5
  have HF2 := Lib.hid (F12.step FF5 nop)
  have HRW : Hid (W.heap.size ≤ w2.heap.size) := Lib.hid F12.size
  have k0 := frozen_of B5 3
  have By0 := set_at B5 3 (.int .i64 q)
  have Fy0 := Fr.setCell HF2.out (p := ⟨w2.heap.size, 3, none⟩) (fun (h : w2.heap.size < W.heap.size) => absurd h (by have := HRW.out; omega)) (.int .i64 q)
  generalize hwy0 : wo5.setCell ⟨w2.heap.size, 3, none⟩ (.int .i64 q) = wy0 at By0 Fy0
  replace By0 : wy0.heap[w2.heap.size]? = some (.cells #[.int .u8 k, .int .i64 SG, .int .i64 lim, .int .i64 q, .int .i64 0, .int .i64 SP, .int .u8 0, .bool false, .slice none 0 0] 27 (0, 0)) := By0
  obtain ⟨p0_0, p0_1, p0_2, p0_3, p0_4, p0_5, p0_6, p0_7, p0_8⟩ := cells9 By0
  have HR5 := Lib.hid By0
  have HFz := Lib.hid Fy0
  have hrb : w2.heap.size < wy0.heap.size := lt_of By0
  have HHP := Lib.hid hrb
  clear hrb
  go_wp2_with fail
  refine (si_new _ 3 (N := 3) rfl).mono ?_
  rintro e w5 ⟨s, g, sh, rfl, hsl, S5, F5, hup⟩
  clear k0 hwy0 p0_0 p0_1 p0_2 p0_3 p0_4 p0_5 p0_6 p0_7 p0_8 By0 Fy0
  clear c5_0 z5_0 c5_1 z5_1 c5_2 z5_2 c5_3 z5_3 c5_4 z5_4 c5_5 z5_5 c5_6 z5_6 c5_7 z5_7 c5_8 z5_8 d5_0 d5_1 d5_2 d5_3 d5_4 d5_5 d5_6 d5_7 d5_8 Bz5 Fz5 Fo5 hwm5 hwo5
  clear FF5 B5 F12 F1 F2
  have HUP : Hid (∀ i, inSt s g sh i → W.heap.size ≤ i) := Lib.hid (fun i hi => Nat.le_trans HFz.out.size (hup i hi))
  have HNR0 : Hid (¬ inSt s g sh w2.heap.size) := Lib.hid (fun h => by have := hup _ h; have := HHP.out; omega)
  have HSL := Lib.hid hsl
  have HRL0 : Hid (ApRel W s g sh w2.heap.size k SG lim q SP len (.int .i64 0) w5) := Lib.hid ⟨0, _, rfl, Nat.zero_le _, S5, F5.at_ HR5.out (fun x => x), HFz.out.step F5 nop⟩
  clear hup hsl S5 F5 HR5 HFz HHP HRW HRU HF2
  obtain ⟨rb, hrb⟩ : ∃ rb, w2.heap.size = rb := ⟨_, rfl⟩
  have HNR : Hid (¬ inSt s g sh rb) := Lib.hid (by rw [← hrb]; exact HNR0.out)
  have HRL : Hid (ApRel W s g sh rb k SG lim q SP len (.int .i64 0) w5) := Lib.hid (by rw [← hrb]; exact HRL0.out)
  clear HNR0 HRL0
  go_wp2_with fail
  try rw [hrb]
  clear hrb
  go_loopw [15] (fun i wr => ApRel W s g sh rb k SG lim q SP len i wr) (fun i _ => len - (intOf i).toNat)
  case atStart => exact HRL.out
  case round =>
    clear HRL
    obtain ⟨j, ms, rfl, hj, Sj, Rj, Fj⟩ := hrel
    by_cases hlt : j < len
    · have rz := HRD.out.fr Fj (fun _ _ x => x)
      obtain ⟨zb, zo, rfl, hzb⟩ := rz.plain (by omega)
      have hwf := HW.out (zs.getD j ETc.z) (by have := HL.out; simp [List.getD_eq_getElem?_getD, this, hlt])
      obtain ⟨y, hy⟩ : ∃ y, zs.getD j ETc.z = y := ⟨_, rfl⟩
      rw [hy] at hwf
      obtain ⟨y0, y1, y2, y3, y4⟩ := y
      have b0 : 0 ≤ y0 ∧ y0 ≤ 255 := bounds_u8 hwf.1
      have b1 : 0 ≤ y1 ∧ y1 ≤ 255 := bounds_u8 hwf.2.1
      have b2 : -32768 ≤ y2 ∧ y2 ≤ 32767 := bounds_i16 hwf.2.2.1
      obtain ⟨l0, l1, l2, l3, l4⟩ := rz.tc hlt hy
      have hlt' : (j : Int) < (len : Int) := by omega
      have HRZ := Lib.hid rz
      have HYY := Lib.hid hy
      have HSj := Lib.hid Sj
      have HRj := Lib.hid Rj
      have HFj := Lib.hid Fj
      clear hwf hy Sj Rj Fj rz l0 l4
      obtain ⟨x, hx⟩ : ∃ x : Int, y1 % 3 = x := ⟨_, rfl⟩
      have hx3 : 0 ≤ x ∧ x < 3 := by omega
      have HX3 := Lib.hid hx3
      have g1 : IntKind.i64.wrap (y1.tmod 3) = x := by rw [Int.tmod_eq_emod_of_nonneg b1.1, hx]; exact IntWalk.i64_in _ (by omega)
      have g2 : IntKind.i64.wrap y2 = y2 := IntWalk.i64_in _ (by omega)
      have HG1 := Lib.hid g1
      have HG2 := Lib.hid g2
      have HBJ : Hid (BigI (j : Int)) := Lib.hid (by unfold BigI; omega)
      have HBT : Hid (BigI ((j : Int) + y0)) := Lib.hid (by unfold BigI; omega)
      have HY2 : Hid (-2147483648 ≤ y2 ∧ y2 ≤ 2147483647) := Lib.hid (by omega)
      clear hx hx3
      go_wp2_with fail
      go_still_tail 21, (by kernel_rfl)
      change wpList _ _ _ _ _ wr.drew
      try rw [HG1.out]
      try rw [HG2.out]
      have HSd := Lib.hid (HSj.out.calm ((Fr.refl (fun _ => False) wr).drew))
      have HRd := Lib.hid (((Fr.refl (fun _ => False) wr).drew).at_ HRj.out (fun x => x))
      have HFd := Lib.hid (HFj.out.drew)
      clear HSj HRj HFj g1 g2 l1 l2 l3
      generalize wr.drew = wd at HSd HRd HFd ⊢
      go_wp2_with fail
      refine (si_put HSd.out x (j : Int) 0 y2 y3 (by have := HSL.out; have := HX3.out; omega) HBJ.out HY2.out).mono ?_
      rintro e w3 ⟨rfl, S3, F3⟩
      have hnr := HNR.out
      have HR3 := Lib.hid (F3.at_ HRd.out hnr)
      have HF3 := Lib.hid (HFd.out.step F3 HUP.out)
      have HS3 := Lib.hid S3
      clear S3 F3 HSd HRd HFd hnr
      obtain ⟨r, hrr⟩ : ∃ r, ob k SG lim q SP (ms ++ [((j : Int), x, 0, y2, y3)]) ((j : Int) + y0) = r := ⟨_, rfl⟩
      obtain ⟨ra, rb_⟩ := r
      have HNA := Lib.hid (ob_apart HAP.out hrr)
      have HQ := Lib.hid (fun n : Calm w3 => obs_si (HS3.out.calm n.fr) k SG lim q 0 SP 0 false none 0 0 ((j : Int) + y0) HBT.out HSP.out hrr)
      clear hrr
      obtain ⟨n0, n1, n2, n3, n4, n5, n6, n7, n8⟩ := Calm.cells9 HR3.out
      have m0 : ∀ n : Calm w3, n.to.cell? ⟨zb, zo + j * 5, none⟩ = some (.int .u8 y0) := fun n => ((((HRD.out.fr HF3.out (fun _ _ x => x)).fr n.fr (fun _ _ x => x))).tc hlt HYY.out).1
      have g3 : IntKind.i64.wrap ((j : Int) + y0) = (j : Int) + y0 := IntWalk.i64_in _ (by omega)
      have g4 : IntKind.i64.wrap y0 = y0 := IntWalk.i64_in _ (by omega)
      have g5 : wrap64 ((j : Int) + y0) = (j : Int) + y0 := IntWalk.wrap64_in _ (by omega)
      have g6 : wrap64 y0 = y0 := IntWalk.wrap64_in _ (by omega)
      go_wp2_with fail
      (refine wp_region_calm (by kernel_rfl) (by kernel_rfl) ?_; (repeat (go_big_quiet_step ((go_at_call 13; exact Calm.of (v := .tuple #[.bool ra, .bool rb_]) (HQ.out _))))); refine wpQuiet_nil ?_; intro _ hwq0; obtain ⟨nq, hwq1⟩ := hwq0; subst hwq1)
      have F4 := nq.fr
      generalize nq.to = w4 at F4 ⊢
      have HRL : Hid (ApRel W s g sh rb k SG lim q SP len (.int .i64 ((j : Int) + 1)) w4) := Lib.hid ⟨j + 1, _, by push_cast; rfl, by omega, HS3.out.calm F4, F4.at_ HR3.out (fun x => x), HF3.out.step F4 nop⟩
      clear F4 HS3 HR3 HF3 HQ n0 n1 n2 n3 n4 n5 n6 n7 n8 m0 g3 g4 g5 g6
      cases ra <;> cases rb_
      case true.true => exact absurd ⟨rfl, rfl⟩ HNA.out
      all_goals
        go_wp2
        go_roundw
        case rel => exact HRL.out
        case measure => simp [intOf]; omega
    · have h3 : ¬ (j : Int) < (len : Int) := by omega
      have HF := Lib.hid Fj
      clear Sj Rj Fj
      go_wp2
      go_ret
      exact ⟨rfl, HF.out.below⟩
set_option maxRecDepth 100000 in
set_option maxHeartbeats 8000000 in
theorem apart4 (kind sig lim back span : Int) (A : Option Addr) (len cap : Nat) (zs : List Tc) (W : World) (hb0 : 0 ≤ kind ∧ kind ≤ 255) (hb1 : 0 ≤ sig ∧ sig ≤ 255) (hb2 : -32768 ≤ lim ∧ lim ≤ 32767) (hb3 : 0 ≤ back ∧ back ≤ 255) (hb4 : 0 ≤ span ∧ span ≤ 255) (hr : Reads ETc W A len zs) (hw : ∀ y, y ∈ zs → okTc y) (hn : len ≤ 60) {k : Int} (hk : 1 + kind % 6 = k) (hk3 : 3 ≤ k ∧ k ≤ 6) (hl : lim < 1) :
    Calls Try.prog 4 #[.int .u8 kind, .int .u8 sig, .int .i16 lim, .int .u8 back, .int .u8 span, .slice A len cap] W fun e w' => e = .returned (.bool true) ∧ Below W.heap.size W w' := by
  have HL := Lib.hid hr.1
  have HW := Lib.hid hw
  have HRD := Lib.hid hr
  clear hw hr
  have e0 : ¬ (60 : Int) < (len : Int) := by omega
  obtain ⟨SG, hsg⟩ : ∃ x : Int, sig % 3 = x := ⟨_, rfl⟩
  obtain ⟨SP, hsp⟩ : ∃ x : Int, span % 20 = x := ⟨_, rfl⟩
  have HSP : Hid (BigI SP) := Lib.hid (by unfold BigI; omega)
  have j1 : (k == 1) = false := by simp; omega
  have j2 : (k == 2) = false := by simp; omega
  obtain ⟨q, hq⟩ : ∃ q, back % (1 - lim + 1) = q := ⟨_, rfl⟩
  have hq0 := Int.emod_nonneg back (show 1 - lim + 1 ≠ 0 by omega)
  have hq1 := Int.emod_lt_of_pos back (show 0 < 1 - lim + 1 by omega)
  rw [hq] at hq0 hq1
  have e1 : ((1 - lim + 1) == 0) = false := by simp; omega
  have e2 : Int.tmod back (1 - lim + 1) = q := by rw [Int.tmod_eq_emod_of_nonneg hb3.1]; exact hq
  have e3 : back % (1 - lim + 1) = q := hq
  clear hq
  have HRU := Lib.hid (fun w => rule_any w k sig lim 0 0 span (by omega) hb1 hb2 (by omega) (by omega) hb4)
  have hk8 : (k : Int) % 8 = k := by omega
  rw [hsg, hsp, hk8, show (0 : Int) % 12 = 0 from rfl] at HRU
  clear hk8
  have HAP : Hid (Apt k (1 - lim) q) := Lib.hid (by unfold Apt; omega)
  have HKK := Lib.hid hk
  clear hsg hsp hk
  go_enter Try.func4, Try.ntmps4
  go_wp2_with fail
  refine (bad_any _).mono ?_
  rintro e w1 ⟨rfl, F1⟩
  go_wp2_with fail
  try rw [HKK.out]
  refine (HRU.out _).mono ?_
  rintro e w2 ⟨rfl, F2⟩
  have F12 := F1.step F2 nop
  have Bz5 : (w2.alloc (.cells #[.int .u8 0, .int .i64 0, .int .i64 0, .int .i64 0, .int .i64 0, .int .i64 0, .int .u8 0, .bool false, .slice none 0 0] 27)).heap[w2.heap.size]? = some (.cells #[.int .u8 0, .int .i64 0, .int .i64 0, .int .i64 0, .int .i64 0, .int .i64 0, .int .u8 0, .bool false, .slice none 0 0] 27 (0, 0)) := alloc_is _ rfl
  have Fz5 := (Fr.refl (fun _ => False) w2).alloc (.cells #[.int .u8 0, .int .i64 0, .int .i64 0, .int .i64 0, .int .i64 0, .int .i64 0, .int .u8 0, .bool false, .slice none 0 0] 27)
  generalize hwm5 : w2.alloc (.cells #[.int .u8 0, .int .i64 0, .int .i64 0, .int .i64 0, .int .i64 0, .int .i64 0, .int .u8 0, .bool false, .slice none 0 0] 27) = wm5 at Bz5 Fz5
  obtain ⟨c5_0, c5_1, c5_2, c5_3, c5_4, c5_5, c5_6, c5_7, c5_8⟩ := cells9 Bz5
  have z5_0 := frozen_of Bz5 0
  have z5_1 := frozen_of Bz5 1
  have z5_2 := frozen_of Bz5 2
  have z5_3 := frozen_of Bz5 3
  have z5_4 := frozen_of Bz5 4
  have z5_5 := frozen_of Bz5 5
  have z5_6 := frozen_of Bz5 6
  have z5_7 := frozen_of Bz5 7
  have z5_8 := frozen_of Bz5 8
  have B5 := put9 (y0 := .int .u8 k) (y1 := .int .i64 SG) (y2 := .int .i64 lim) (y3 := .int .i64 0) (y4 := .int .i64 0) (y5 := .int .i64 SP) (y6 := .int .u8 0) (y7 := .bool false) (y8 := .slice none 0 0) Bz5
  have Fo5 := (Fr.refl (fun i => i = w2.heap.size) wm5).put9 (b := w2.heap.size) (fun _ => rfl) (.int .u8 k) (.int .i64 SG) (.int .i64 lim) (.int .i64 0) (.int .i64 0) (.int .i64 SP) (.int .u8 0) (.bool false) (.slice none 0 0)
  generalize hwo5 : (((((((((wm5.setCell ⟨w2.heap.size, 0, none⟩ (.int .u8 k)).setCell ⟨w2.heap.size, 1, none⟩ (.int .i64 SG)).setCell ⟨w2.heap.size, 2, none⟩ (.int .i64 lim)).setCell ⟨w2.heap.size, 3, none⟩ (.int .i64 0)).setCell ⟨w2.heap.size, 4, none⟩ (.int .i64 0)).setCell ⟨w2.heap.size, 5, none⟩ (.int .i64 SP)).setCell ⟨w2.heap.size, 6, none⟩ (.int .u8 0)).setCell ⟨w2.heap.size, 7, none⟩ (.bool false)).setCell ⟨w2.heap.size, 8, none⟩ (.slice none 0 0)) = wo5 at B5 Fo5
  have FF5 := Fz5.trans Fo5 (fun i hi (h : i = w2.heap.size) => by omega)
  obtain ⟨d5_0, d5_1, d5_2, d5_3, d5_4, d5_5, d5_6, d5_7, d5_8⟩ := cells9 B5
  have HF2 := Lib.hid (F12.step FF5 nop)
  have HRW : Hid (W.heap.size ≤ w2.heap.size) := Lib.hid F12.size
  have k0 := frozen_of B5 2
  have By0 := set_at B5 2 (.int .i64 (1 - lim))
  have Fy0 := Fr.setCell HF2.out (p := ⟨w2.heap.size, 2, none⟩) (fun (h : w2.heap.size < W.heap.size) => absurd h (by have := HRW.out; omega)) (.int .i64 (1 - lim))
  generalize hwy0 : wo5.setCell ⟨w2.heap.size, 2, none⟩ (.int .i64 (1 - lim)) = wy0 at By0 Fy0
  replace By0 : wy0.heap[w2.heap.size]? = some (.cells #[.int .u8 k, .int .i64 SG, .int .i64 (1 - lim), .int .i64 0, .int .i64 0, .int .i64 SP, .int .u8 0, .bool false, .slice none 0 0] 27 (0, 0)) := By0
  obtain ⟨p0_0, p0_1, p0_2, p0_3, p0_4, p0_5, p0_6, p0_7, p0_8⟩ := cells9 By0
  have k1 := frozen_of By0 3
  have By1 := set_at By0 3 (.int .i64 q)
  have Fy1 := Fr.setCell Fy0 (p := ⟨w2.heap.size, 3, none⟩) (fun (h : w2.heap.size < W.heap.size) => absurd h (by have := HRW.out; omega)) (.int .i64 q)
  generalize hwy1 : wy0.setCell ⟨w2.heap.size, 3, none⟩ (.int .i64 q) = wy1 at By1 Fy1
  replace By1 : wy1.heap[w2.heap.size]? = some (.cells #[.int .u8 k, .int .i64 SG, .int .i64 (1 - lim), .int .i64 q, .int .i64 0, .int .i64 SP, .int .u8 0, .bool false, .slice none 0 0] 27 (0, 0)) := By1
  obtain ⟨p1_0, p1_1, p1_2, p1_3, p1_4, p1_5, p1_6, p1_7, p1_8⟩ := cells9 By1
  have HR5 := Lib.hid By1
  have HFz := Lib.hid Fy1
  have hrb : w2.heap.size < wy1.heap.size := lt_of By1
  have HHP := Lib.hid hrb
  clear hrb
  go_wp2_with fail
  refine (si_new _ 3 (N := 3) rfl).mono ?_
  rintro e w5 ⟨s, g, sh, rfl, hsl, S5, F5, hup⟩
  clear k0 hwy0 p0_0 p0_1 p0_2 p0_3 p0_4 p0_5 p0_6 p0_7 p0_8 k1 hwy1 p1_0 p1_1 p1_2 p1_3 p1_4 p1_5 p1_6 p1_7 p1_8 By0 Fy0 By1 Fy1
  clear c5_0 z5_0 c5_1 z5_1 c5_2 z5_2 c5_3 z5_3 c5_4 z5_4 c5_5 z5_5 c5_6 z5_6 c5_7 z5_7 c5_8 z5_8 d5_0 d5_1 d5_2 d5_3 d5_4 d5_5 d5_6 d5_7 d5_8 Bz5 Fz5 Fo5 hwm5 hwo5
  clear FF5 B5 F12 F1 F2
  have HUP : Hid (∀ i, inSt s g sh i → W.heap.size ≤ i) := Lib.hid (fun i hi => Nat.le_trans HFz.out.size (hup i hi))
  have HNR0 : Hid (¬ inSt s g sh w2.heap.size) := Lib.hid (fun h => by have := hup _ h; have := HHP.out; omega)
  have HSL := Lib.hid hsl
  have HRL0 : Hid (ApRel W s g sh w2.heap.size k SG (1 - lim) q SP len (.int .i64 0) w5) := Lib.hid ⟨0, _, rfl, Nat.zero_le _, S5, F5.at_ HR5.out (fun x => x), HFz.out.step F5 nop⟩
  clear hup hsl S5 F5 HR5 HFz HHP HRW HRU HF2
  obtain ⟨rb, hrb⟩ : ∃ rb, w2.heap.size = rb := ⟨_, rfl⟩
  have HNR : Hid (¬ inSt s g sh rb) := Lib.hid (by rw [← hrb]; exact HNR0.out)
  have HRL : Hid (ApRel W s g sh rb k SG (1 - lim) q SP len (.int .i64 0) w5) := Lib.hid (by rw [← hrb]; exact HRL0.out)
  clear HNR0 HRL0
  go_wp2_with fail
  try rw [hrb]
  clear hrb
  go_loopw [15] (fun i wr => ApRel W s g sh rb k SG (1 - lim) q SP len i wr) (fun i _ => len - (intOf i).toNat)
  case atStart => exact HRL.out
  case round =>
    clear HRL
    obtain ⟨j, ms, rfl, hj, Sj, Rj, Fj⟩ := hrel
    by_cases hlt : j < len
    · have rz := HRD.out.fr Fj (fun _ _ x => x)
      obtain ⟨zb, zo, rfl, hzb⟩ := rz.plain (by omega)
      have hwf := HW.out (zs.getD j ETc.z) (by have := HL.out; simp [List.getD_eq_getElem?_getD, this, hlt])
      obtain ⟨y, hy⟩ : ∃ y, zs.getD j ETc.z = y := ⟨_, rfl⟩
      rw [hy] at hwf
      obtain ⟨y0, y1, y2, y3, y4⟩ := y
      have b0 : 0 ≤ y0 ∧ y0 ≤ 255 := bounds_u8 hwf.1
      have b1 : 0 ≤ y1 ∧ y1 ≤ 255 := bounds_u8 hwf.2.1
      have b2 : -32768 ≤ y2 ∧ y2 ≤ 32767 := bounds_i16 hwf.2.2.1
      obtain ⟨l0, l1, l2, l3, l4⟩ := rz.tc hlt hy
      have hlt' : (j : Int) < (len : Int) := by omega
      have HRZ := Lib.hid rz
      have HYY := Lib.hid hy
      have HSj := Lib.hid Sj
      have HRj := Lib.hid Rj
      have HFj := Lib.hid Fj
      clear hwf hy Sj Rj Fj rz l0 l4
      obtain ⟨x, hx⟩ : ∃ x : Int, y1 % 3 = x := ⟨_, rfl⟩
      have hx3 : 0 ≤ x ∧ x < 3 := by omega
      have HX3 := Lib.hid hx3
      have g1 : IntKind.i64.wrap (y1.tmod 3) = x := by rw [Int.tmod_eq_emod_of_nonneg b1.1, hx]; exact IntWalk.i64_in _ (by omega)
      have g2 : IntKind.i64.wrap y2 = y2 := IntWalk.i64_in _ (by omega)
      have HG1 := Lib.hid g1
      have HG2 := Lib.hid g2
      have HBJ : Hid (BigI (j : Int)) := Lib.hid (by unfold BigI; omega)
      have HBT : Hid (BigI ((j : Int) + y0)) := Lib.hid (by unfold BigI; omega)
      have HY2 : Hid (-2147483648 ≤ y2 ∧ y2 ≤ 2147483647) := Lib.hid (by omega)
      clear hx hx3
      go_wp2_with fail
      go_still_tail 21, (by kernel_rfl)
      change wpList _ _ _ _ _ wr.drew
      try rw [HG1.out]
      try rw [HG2.out]
      have HSd := Lib.hid (HSj.out.calm ((Fr.refl (fun _ => False) wr).drew))
      have HRd := Lib.hid (((Fr.refl (fun _ => False) wr).drew).at_ HRj.out (fun x => x))
      have HFd := Lib.hid (HFj.out.drew)
      clear HSj HRj HFj g1 g2 l1 l2 l3
      generalize wr.drew = wd at HSd HRd HFd ⊢
      go_wp2_with fail
      refine (si_put HSd.out x (j : Int) 0 y2 y3 (by have := HSL.out; have := HX3.out; omega) HBJ.out HY2.out).mono ?_
      rintro e w3 ⟨rfl, S3, F3⟩
      have hnr := HNR.out
      have HR3 := Lib.hid (F3.at_ HRd.out hnr)
      have HF3 := Lib.hid (HFd.out.step F3 HUP.out)
      have HS3 := Lib.hid S3
      clear S3 F3 HSd HRd HFd hnr
      obtain ⟨r, hrr⟩ : ∃ r, ob k SG (1 - lim) q SP (ms ++ [((j : Int), x, 0, y2, y3)]) ((j : Int) + y0) = r := ⟨_, rfl⟩
      obtain ⟨ra, rb_⟩ := r
      have HNA := Lib.hid (ob_apart HAP.out hrr)
      have HQ := Lib.hid (fun n : Calm w3 => obs_si (HS3.out.calm n.fr) k SG (1 - lim) q 0 SP 0 false none 0 0 ((j : Int) + y0) HBT.out HSP.out hrr)
      clear hrr
      obtain ⟨n0, n1, n2, n3, n4, n5, n6, n7, n8⟩ := Calm.cells9 HR3.out
      have m0 : ∀ n : Calm w3, n.to.cell? ⟨zb, zo + j * 5, none⟩ = some (.int .u8 y0) := fun n => ((((HRD.out.fr HF3.out (fun _ _ x => x)).fr n.fr (fun _ _ x => x))).tc hlt HYY.out).1
      have g3 : IntKind.i64.wrap ((j : Int) + y0) = (j : Int) + y0 := IntWalk.i64_in _ (by omega)
      have g4 : IntKind.i64.wrap y0 = y0 := IntWalk.i64_in _ (by omega)
      have g5 : wrap64 ((j : Int) + y0) = (j : Int) + y0 := IntWalk.wrap64_in _ (by omega)
      have g6 : wrap64 y0 = y0 := IntWalk.wrap64_in _ (by omega)
      go_wp2_with fail
      (refine wp_region_calm (by kernel_rfl) (by kernel_rfl) ?_; (repeat (go_big_quiet_step ((go_at_call 13; exact Calm.of (v := .tuple #[.bool ra, .bool rb_]) (HQ.out _))))); refine wpQuiet_nil ?_; intro _ hwq0; obtain ⟨nq, hwq1⟩ := hwq0; subst hwq1)
      have F4 := nq.fr
      generalize nq.to = w4 at F4 ⊢
      have HRL : Hid (ApRel W s g sh rb k SG (1 - lim) q SP len (.int .i64 ((j : Int) + 1)) w4) := Lib.hid ⟨j + 1, _, by push_cast; rfl, by omega, HS3.out.calm F4, F4.at_ HR3.out (fun x => x), HF3.out.step F4 nop⟩
      clear F4 HS3 HR3 HF3 HQ n0 n1 n2 n3 n4 n5 n6 n7 n8 m0 g3 g4 g5 g6
      cases ra <;> cases rb_
      case true.true => exact absurd ⟨rfl, rfl⟩ HNA.out
      all_goals
        go_wp2
        go_roundw
        case rel => exact HRL.out
        case measure => simp [intOf]; omega
    · have h3 : ¬ (j : Int) < (len : Int) := by omega
      have HF := Lib.hid Fj
      clear Sj Rj Fj
      go_wp2
      go_ret
      exact ⟨rfl, HF.out.below⟩
set_option maxRecDepth 100000 in
set_option maxHeartbeats 8000000 in
theorem TaskApart_walk (kind sig lim back span : Int) (A : Option Addr) (len cap : Nat) (zs : List Tc) (W : World) (w0 : (Lit.int .u8 kind).wf = true) (w1 : (Lit.int .u8 sig).wf = true) (w2 : (Lit.int .i16 lim).wf = true) (w3 : (Lit.int .u8 back).wf = true) (w4 : (Lit.int .u8 span).wf = true)
    (hr : Reads ETc W A len zs) (hw : ∀ y, y ∈ zs → okTc y) (hcap : len ≤ cap ∧ cap ≤ maxLen) :
    Calls Try.prog 4 #[.int .u8 kind, .int .u8 sig, .int .i16 lim, .int .u8 back, .int .u8 span, .slice A len cap] W fun e w' => e = .returned (.bool true) ∧ Below W.heap.size W w' := by
  clear hcap
  have hb0 := bounds_u8 w0
  have hb1 := bounds_u8 w1
  have hb2 := bounds_i16 w2
  have hb3 := bounds_u8 w3
  have hb4 := bounds_u8 w4
  by_cases hn : len ≤ 60
  · by_cases k1 : 1 + kind % 6 = 1
    · exact apart1 kind sig lim back span A len cap zs W hb0 hb1 hb2 hb3 hb4 hr hw hn k1
    · by_cases k2 : 1 + kind % 6 = 2
      · exact apart2 kind sig lim back span A len cap zs W hb0 hb1 hb2 hb3 hb4 hr hw hn k2
      · by_cases hl : 1 ≤ lim
        · exact apart3 kind sig lim back span A len cap zs W hb0 hb1 hb2 hb3 hb4 hr hw hn rfl (by omega) hl
        · exact apart4 kind sig lim back span A len cap zs W hb0 hb1 hb2 hb3 hb4 hr hw hn rfl (by omega) (by omega)
  · have e0 : (60 : Int) < (len : Int) := by omega
    clear w0 w1 w2 w3 w4 hr hw
    go_enter Try.func4, Try.ntmps4
    go_wp2_with fail
    refine (bad_any _).mono ?_
    rintro e w1 ⟨rfl, F1⟩
    go_wp2_with fail
    refine (bad_any _).mono ?_
    rintro e w2 ⟨rfl, F2⟩
    have HF := Lib.hid (F1.step F2 nop)
    go_wp2
    go_ret
    exact ⟨rfl, HF.out.below⟩

end Go.Proofs.Ytbmhgkajjjiniaa
