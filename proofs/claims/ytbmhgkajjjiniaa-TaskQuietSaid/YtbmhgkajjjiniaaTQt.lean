/- TQt. -/
import Derived.Test.YtbmhgkajjjiniaaChecked
import Derived.WalkKit
import Derived.Laws.IdiomCopy
import Derived.Deep.QuietTactic
import Derived.BigQuiet
import Derived.Lib.Hide
import Derived.OpenShut
import Derived.StillTailTactics
import Derived.Deep.RegionWith
import Derived.Deep.RegionLaw
import Derived.Deep.Slices
import Derived.Deep.RegionHeld3
import Derived.OwnWalk
import Derived.Test.YtbmhgkajjjiniaaBase
import Derived.Test.YtbmhgkajjjiniaaCalm
import Derived.Test.YtbmhgkajjjiniaaCalmT
import Derived.Test.YtbmhgkajjjiniaaCel
import Derived.Test.YtbmhgkajjjiniaaApp
import Derived.Test.YtbmhgkajjjiniaaClk
import Derived.Test.YtbmhgkajjjiniaaRV
import Derived.Test.YtbmhgkajjjiniaaRVB
import Derived.Test.YtbmhgkajjjiniaaRVC
import Derived.Test.YtbmhgkajjjiniaaRVA
import Derived.Test.YtbmhgkajjjiniaaCeS
import Derived.Test.YtbmhgkajjjiniaaCeF
import Derived.Test.YtbmhgkajjjiniaaCeG
import Derived.Test.YtbmhgkajjjiniaaCeN
import Derived.Test.YtbmhgkajjjiniaaCeX
import Derived.Test.YtbmhgkajjjiniaaClkR
import Derived.Test.YtbmhgkajjjiniaaSn
import Derived.Test.YtbmhgkajjjiniaaSn2
import Derived.Test.YtbmhgkajjjiniaaCpL
import Derived.Test.YtbmhgkajjjiniaaCel9
import Derived.Test.YtbmhgkajjjiniaaTr
import Derived.Test.YtbmhgkajjjiniaaGCr
import Derived.Test.YtbmhgkajjjiniaaTCh
import Derived.Test.YtbmhgkajjjiniaaGSt
import Derived.Test.YtbmhgkajjjiniaaTOb
import Derived.Test.YtbmhgkajjjiniaaTTk
import Derived.Test.YtbmhgkajjjiniaaTBd
namespace Go.Proofs.Ytbmhgkajjjiniaa
open Go.RowKit
set_option linter.unusedVariables false
set_option linter.unusedSimpArgs false

/-! ### TaskQuiet -/
def gq (P D t : Int) : Bool × Bool × Int := if t ≤ P then (false, false, 0) else if t ≤ P + D then (false, true, P) else (true, false, 0)
theorem gq_big {P : Int} (hP : BigI P) {D : Int} (t : Int) : BigI (gq P D t).2.2 := by
  have h0 : BigI 0 := by unfold BigI; omega
  unfold gq
  by_cases e : t ≤ P
  · rw [if_pos e]; exact h0
  · rw [if_neg e]
    by_cases e2 : t ≤ P + D
    · rw [if_pos e2]; exact hP
    · rw [if_neg e2]; exact h0
theorem gq_one {P D t : Int} (hD : 0 ≤ D) : (gq P D (t + 1)).1 = decide (P + D ≤ t) := by
  unfold gq
  by_cases e : t + 1 ≤ P
  · rw [if_pos e, decide_eq_false (by omega)]
  · rw [if_neg e]
    by_cases e2 : t + 1 ≤ P + D
    · rw [if_pos e2, decide_eq_false (by omega)]
    · rw [if_neg e2, decide_eq_true (by omega)]
theorem gq_step {P D t : Int} (ht : 1 ≤ t ∧ t < 60) (hP : 1 ≤ P ∧ P ≤ 30) (hD : 0 ≤ D ∧ D ≤ 9) : gs (gq P D t) t (decide (P ≤ t)) (!decide (P ≤ t)) D = gq P D (t + 1) := by
  unfold gq gs sn
  by_cases h1 : t ≤ P
  · rw [if_pos h1]
    by_cases h2 : P ≤ t
    · rw [decide_eq_true h2]
      simp only [Bool.false_eq_true, if_false, if_true]
      rw [if_pos (Int.le_refl t), if_neg (show ¬ t + 1 ≤ P by omega)]
      by_cases h3 : D ≤ 0
      · rw [if_pos h3, if_neg (by omega)]
      · rw [if_neg (show ¬ (0 : Int) ≥ D by omega), if_pos (by omega)]
        rw [show t = P by omega]
    · rw [decide_eq_false h2, if_pos (show t + 1 ≤ P by omega)]
      simp only [Bool.false_eq_true, if_false]
  · rw [if_neg h1, decide_eq_true (show P ≤ t by omega), if_neg (show ¬ t + 1 ≤ P by omega)]
    by_cases h2 : t ≤ P + D
    · rw [if_pos h2]
      simp only [Bool.false_eq_true, if_false, if_true]
      rw [if_neg (show ¬ t ≤ P by omega), if_neg (show ¬ t - P > 1099511627776 by omega)]
      by_cases h3 : t - P ≥ D
      · rw [if_pos h3, if_neg (by omega)]
      · rw [if_neg h3, if_pos (by omega)]
    · rw [if_neg h2, if_neg (show ¬ t + 1 ≤ P + D by omega)]
      rfl
theorem ob_quiet {P t : Int} (ht : 1 ≤ t ∧ t < 60) : ob 5 0 0 0 P [] t = (decide (P ≤ t), !decide (P ≤ t)) := by
  unfold ob
  rw [if_neg (by omega), if_neg (by omega), if_pos rfl]
  rw [show (lt_ 0 []).1 = 0 from rfl]
  rw [show sn t 0 = t from by unfold sn; rw [if_neg (by omega), if_neg (by omega)]; omega]
def QtRel (W : World) (s g : Nat) (sh : List (Nat × Nat)) (bt bu rb : Nat) (P D : Int) (i : Value) (wr : World) : Prop :=
  ∃ t : Int, i = .int .i64 t ∧ 1 ≤ t ∧ t ≤ 60 ∧ SI wr s g sh [] ∧ TK wr bt 5 0 0 0 D P 0 false none 0 0 (gq P D t) ∧ TK wr bu 6 0 0 0 0 0 0 false none 0 0 (false, false, 0) ∧
    wr.heap[rb]? = some (.cells #[.int .u8 5, .int .i64 0, .int .i64 0, .int .i64 0, .int .i64 D, .int .i64 P, .int .u8 0, .bool false, .slice none 0 0] 27 (0, 0)) ∧ Fr (fun _ => False) W wr
set_option maxRecDepth 100000 in
set_option maxHeartbeats 8000000 in
theorem TaskQuiet_walk (span delay : Int) (W : World) (w0 : (Lit.int .u8 span).wf = true) (w1 : (Lit.int .u8 delay).wf = true) :
    Calls Try.prog 5 #[.int .u8 span, .int .u8 delay] W fun e w' => e = .returned (.bool true) ∧ Below W.heap.size W w' := by
  have hs0 := bounds_u8 w0
  have hs1 := bounds_u8 w1
  clear w0 w1
  obtain ⟨P, hP⟩ : ∃ P : Int, 1 + span % 30 = P := ⟨_, rfl⟩
  obtain ⟨D, hD⟩ : ∃ D : Int, delay % 10 = D := ⟨_, rfl⟩
  have hPb : 1 ≤ P ∧ P ≤ 30 := by omega
  have hDb : 0 ≤ D ∧ D ≤ 9 := by omega
  have HP := Lib.hid hP
  have HD := Lib.hid hD
  have HPD := Lib.hid hPb
  have HDD := Lib.hid hDb
  clear hP hD hPb hDb
  go_enter Try.func5, Try.ntmps5
  go_wp2_with fail
  refine (bad_any _).mono ?_
  rintro e w1 ⟨rfl, F1⟩
  have Bz5 : (w1.alloc (.cells #[.int .u8 0, .int .i64 0, .int .i64 0, .int .i64 0, .int .i64 0, .int .i64 0, .int .u8 0, .bool false, .slice none 0 0] 27)).heap[w1.heap.size]? = some (.cells #[.int .u8 0, .int .i64 0, .int .i64 0, .int .i64 0, .int .i64 0, .int .i64 0, .int .u8 0, .bool false, .slice none 0 0] 27 (0, 0)) := alloc_is _ rfl
  have Fz5 := (Fr.refl (fun _ => False) w1).alloc (.cells #[.int .u8 0, .int .i64 0, .int .i64 0, .int .i64 0, .int .i64 0, .int .i64 0, .int .u8 0, .bool false, .slice none 0 0] 27)
  generalize hwm5 : w1.alloc (.cells #[.int .u8 0, .int .i64 0, .int .i64 0, .int .i64 0, .int .i64 0, .int .i64 0, .int .u8 0, .bool false, .slice none 0 0] 27) = wm5 at Bz5 Fz5
  obtain ⟨c5_0, c5_1, c5_2, c5_3, c5_4, c5_5, c5_6, c5_7, c5_8⟩ := cells9 Bz5
  have z5_0 := frozen_of Bz5 0
  have z5_1 := frozen_of Bz5 1
  have z5_2 := frozen_of Bz5 2
  have z5_3 := frozen_of Bz5 3
  have z5_4 := frozen_of Bz5 4
  have z5_5 := frozen_of Bz5 5
  have z5_6 := frozen_of Bz5 6
  have z5_7 := frozen_of Bz5 7
  have z5_8 := frozen_of Bz5 8
  have B5 := put9 (y0 := .int .u8 5) (y1 := .int .i64 0) (y2 := .int .i64 0) (y3 := .int .i64 0) (y4 := .int .i64 (delay % 10)) (y5 := .int .i64 (1 + span % 30)) (y6 := .int .u8 0) (y7 := .bool false) (y8 := .slice none 0 0) Bz5
  have Fo5 := (Fr.refl (fun i => i = w1.heap.size) wm5).put9 (b := w1.heap.size) (fun _ => rfl) (.int .u8 5) (.int .i64 0) (.int .i64 0) (.int .i64 0) (.int .i64 (delay % 10)) (.int .i64 (1 + span % 30)) (.int .u8 0) (.bool false) (.slice none 0 0)
  generalize hwo5 : (((((((((wm5.setCell ⟨w1.heap.size, 0, none⟩ (.int .u8 5)).setCell ⟨w1.heap.size, 1, none⟩ (.int .i64 0)).setCell ⟨w1.heap.size, 2, none⟩ (.int .i64 0)).setCell ⟨w1.heap.size, 3, none⟩ (.int .i64 0)).setCell ⟨w1.heap.size, 4, none⟩ (.int .i64 (delay % 10))).setCell ⟨w1.heap.size, 5, none⟩ (.int .i64 (1 + span % 30))).setCell ⟨w1.heap.size, 6, none⟩ (.int .u8 0)).setCell ⟨w1.heap.size, 7, none⟩ (.bool false)).setCell ⟨w1.heap.size, 8, none⟩ (.slice none 0 0)) = wo5 at B5 Fo5
  have FF5 := Fz5.trans Fo5 (fun i hi (h : i = w1.heap.size) => by omega)
  obtain ⟨d5_0, d5_1, d5_2, d5_3, d5_4, d5_5, d5_6, d5_7, d5_8⟩ := cells9 B5
  have HF2 := Lib.hid (F1.step FF5 nop)
  have HR5 := Lib.hid B5
  rw [HP.out, HD.out] at HR5
  have hrb : w1.heap.size < wo5.heap.size := lt_of B5
  have hrw : W.heap.size ≤ w1.heap.size := F1.size
  have HHP := Lib.hid hrb
  have HRW := Lib.hid hrw
  clear hrb hrw
  go_wp2_with fail
  rw [HP.out, HD.out]
  refine (task_new _ 5 0 0 0 D P 0 false none 0 0).mono ?_
  rintro e w3 ⟨bt, rfl, T3, hb1, hb2, F3⟩
  clear c5_0 z5_0 c5_1 z5_1 c5_2 z5_2 c5_3 z5_3 c5_4 z5_4 c5_5 z5_5 c5_6 z5_6 c5_7 z5_7 c5_8 z5_8 d5_0 d5_1 d5_2 d5_3 d5_4 d5_5 d5_6 d5_7 d5_8 Bz5 Fz5 Fo5 hwm5 hwo5
  clear FF5 B5 F1
  have HWT : Hid (W.heap.size ≤ bt) := Lib.hid (by have := HF2.out.size; omega)
  have HRT : Hid (w1.heap.size < bt) := Lib.hid (by have := HHP.out; omega)
  have HF3 := Lib.hid (HF2.out.step F3 nop)
  have HR3 := Lib.hid (F3.at_ HR5.out (fun x => x))
  have HT3 := Lib.hid T3
  have HB3 := Lib.hid hb2
  clear F3 T3 hb1 hb2 HF2 HR5
  go_wp2_with fail
  refine (task_new _ 6 0 0 0 0 0 0 false none 0 0).mono ?_
  rintro e w4 ⟨bu, rfl, U4, hb1, hb2, F4⟩
  have HNE : Hid (bu ≠ bt) := Lib.hid (by have := HB3.out; omega)
  have HWU : Hid (W.heap.size ≤ bu) := Lib.hid (by have := HF3.out.size; omega)
  have HRU : Hid (w1.heap.size < bu) := Lib.hid (by have := HRT.out; have := HB3.out; omega)
  have HF4 := Lib.hid (HF3.out.step F4 nop)
  have HR4 := Lib.hid (F4.at_ HR3.out (fun x => x))
  have HT4 := Lib.hid (HT3.out.fr F4 (fun x => x))
  have HU4 := Lib.hid U4
  have HB4 : Hid (bt < w4.heap.size ∧ bu < w4.heap.size) := Lib.hid (by have := HB3.out; omega)
  clear F4 U4 hb1 hb2 HF3 HR3 HT3 HB3
  go_wp2_with fail
  refine (si_new _ 1 (N := 1) rfl).mono ?_
  rintro e w5 ⟨s, g, sh, rfl, hsl, S5, F5, hup⟩
  have HNT : Hid (¬ inSt s g sh bt) := Lib.hid (fun h => by have := hup bt h; have := HB4.out; omega)
  have HNU : Hid (¬ inSt s g sh bu) := Lib.hid (fun h => by have := hup bu h; have := HB4.out; omega)
  obtain ⟨rb, hrb⟩ : ∃ rb, w1.heap.size = rb := ⟨_, rfl⟩
  have HNR : Hid (¬ (rb = bt ∨ rb = bu)) := Lib.hid (by have := HRT.out; have := HRU.out; omega)
  have HRL : Hid (QtRel W s g sh bt bu rb P D (.int .i64 1) w5) := Lib.hid ⟨1, rfl, by omega, by omega, S5, by rw [show gq P D 1 = (false, false, 0) from by unfold gq; rw [if_pos (by have := HPD.out; omega)]]; exact HT4.out.fr F5 (fun x => x), HU4.out.fr F5 (fun x => x), by rw [← hrb]; exact F5.at_ HR4.out (fun x => x), HF4.out.step F5 nop⟩
  have HWB : Hid (W.heap.size ≤ bt ∧ W.heap.size ≤ bu) := Lib.hid ⟨HWT.out, HWU.out⟩
  clear hup hsl S5 F5 HT4 HU4 HF4 HR4 HB4 HWT HWU HRT HRU HHP HRW
  go_wp2_with fail
  try rw [hrb]
  clear hrb
  go_loopw [9] (fun i wr => QtRel W s g sh bt bu rb P D i wr) (fun i _ => (60 - intOf i).toNat)
  case atStart => exact HRL.out
  case round =>
    clear HRL
    obtain ⟨t, rfl, ht1, ht2, S0, T0, U0, R0, F0⟩ := hrel
    have HS0 := Lib.hid S0
    have HT := Lib.hid T0
    have HU := Lib.hid U0
    have HRB := Lib.hid R0
    have HF := Lib.hid F0
    have HB0 : Hid (BigI 0) := Lib.hid (by unfold BigI; omega)
    have HPB : Hid (BigI P) := Lib.hid (by have := HPD.out; unfold BigI; omega)
    clear S0 T0 U0 R0 F0
    by_cases hlt : t < 60
    · have HTR : Hid (1 ≤ t ∧ t < 60) := Lib.hid ⟨ht1, hlt⟩
      have HTB : Hid (BigI t) := Lib.hid (by unfold BigI; omega)
      have HGS := Lib.hid (gq_step HTR.out HPD.out HDD.out)
      have hge : 1 ≤ P + D ∧ P + D ≤ 39 := by have := HPD.out; have := HDD.out; omega
      have g1 : IntKind.i64.wrap (P + D) = P + D := IntWalk.i64_in _ (by omega)
      by_cases hq : P + D ≤ t
      · have HQ1 : Hid ((gq P D (t + 1)).1 = true) := Lib.hid (by rw [gq_one HDD.out.1, decide_eq_true hq])
        have hq' : decide (P + D ≤ t) = true := decide_eq_true hq
        clear hq
        have HS : Hid (∀ w', Fr (fun k => k = bt ∨ k = bu) wr w' → w'.cell? ⟨rb, 5, none⟩ = some (.int .i64 P) ∧ w'.cell? ⟨rb, 4, none⟩ = some (.int .i64 D)) := Lib.hid (fun w' h => by
          have hb := h.at_ HRB.out HNR.out
          exact ⟨by rw [cell_of hb]; rfl, by rw [cell_of hb]; rfl⟩)
        have HR1 : Hid (∀ w', Fr (fun _ => False) wr w' → Calls Try.prog 16 #[.pointer (some ⟨bt, 0, none⟩), .int .i64 t, .pointer (some ⟨s, 0, none⟩)] w' fun e w'' => e = .returned (.bool true) ∧ TK w'' bt 5 0 0 0 D P 0 false none 0 0 (gq P D (t + 1)) ∧ Fr (fun k => k = bt) wr w'') := Lib.hid (fun w' h =>
          (task_run (HT.out.fr h (fun x => x)) (gq_big HPB.out t) (HS0.out.calm h) HTB.out HPB.out (ob_quiet HTR.out) HGS.out HNT.out).mono fun e w'' ⟨h1, h2, _, _, h3⟩ => ⟨by rw [h1, HQ1.out], h2, (h.mono (S' := fun k => k = bt) (fun _ _ x => x.elim)).trans h3 (fun _ _ x => x)⟩)
        have HR2 : Hid (∀ w', Fr (fun k => k = bt) wr w' → TK w' bt 5 0 0 0 D P 0 false none 0 0 (gq P D (t + 1)) → Calls Try.prog 16 #[.pointer (some ⟨bu, 0, none⟩), .int .i64 t, .pointer (some ⟨s, 0, none⟩)] w' fun e w'' => e = .returned (.bool false) ∧ TK w'' bt 5 0 0 0 D P 0 false none 0 0 (gq P D (t + 1)) ∧ TK w'' bu 6 0 0 0 0 0 0 false none 0 0 (false, false, 0) ∧ Fr (fun k => k = bt ∨ k = bu) wr w'') := Lib.hid (fun w' h hT =>
          (task_run (HU.out.fr h HNE.out) HB0.out (HS0.out.fr h (fun i hi e => HNT.out (e ▸ hi))) HTB.out HB0.out (r := (false, true)) rfl (q := (false, false, 0)) rfl HNU.out).mono fun e w'' ⟨h1, h2, _, _, h3⟩ => ⟨h1, hT.fr h3 (fun e => HNE.out e.symm), h2, (h.mono (S' := (fun k => k = bt ∨ k = bu)) (fun _ _ x => .inl x)).trans h3 (fun _ _ x => .inr x)⟩)
        have hF0 : Fr (fun _ => False) wr wr.drew := (Fr.refl _ _).drew
        go_wp2_with fail
        go_region_held3 (fun w' => w'.cell? ⟨rb, 5, none⟩ = some (.int .i64 P) ∧ w'.cell? ⟨rb, 4, none⟩ = some (.int .i64 D))
          (first | exact HS.out _ (by assumption) | exact HS.out _ (Fr.mono (S := fun _ => False) (by assumption) (fun _ _ x => x.elim)) | exact HS.out _ (Fr.mono (S := fun k => k = bt) (by assumption) (fun _ _ x => .inl x)))
          (first
            | (go_at_call_of 16 bt; refine (HR1.out _ (by assumption)).mono ?_; rintro e wA ⟨rfl, TA, FA⟩)
            | (go_at_call_of 16 bu; refine (HR2.out _ (by assumption) (by assumption)).mono ?_; rintro e wB ⟨rfl, TA2, TB, FB⟩))
        have HK : Hid (QtRel W s g sh bt bu rb P D (.int .i64 (t + 1)) wB) := Lib.hid ⟨t + 1, rfl, by have := HTR.out; omega, by have := HTR.out; omega, HS0.out.fr FB (fun i hi h => h.elim (fun e => HNT.out (e ▸ hi)) (fun e => HNU.out (e ▸ hi))), TA2, TB, FB.at_ HRB.out HNR.out, HF.out.step FB (fun i h => by have := HWB.out; omega)⟩
        clear TA TA2 TB FA FB hF0
        go_wp2
        go_roundw
        case rel => exact HK.out
        case measure => simp [intOf]; omega
      · have HQ1 : Hid ((gq P D (t + 1)).1 = false) := Lib.hid (by rw [gq_one HDD.out.1, decide_eq_false hq])
        have hq' : decide (P + D ≤ t) = false := decide_eq_false hq
        clear hq
        have HS : Hid (∀ w', Fr (fun k => k = bt ∨ k = bu) wr w' → w'.cell? ⟨rb, 5, none⟩ = some (.int .i64 P) ∧ w'.cell? ⟨rb, 4, none⟩ = some (.int .i64 D)) := Lib.hid (fun w' h => by
          have hb := h.at_ HRB.out HNR.out
          exact ⟨by rw [cell_of hb]; rfl, by rw [cell_of hb]; rfl⟩)
        have HR1 : Hid (∀ w', Fr (fun _ => False) wr w' → Calls Try.prog 16 #[.pointer (some ⟨bt, 0, none⟩), .int .i64 t, .pointer (some ⟨s, 0, none⟩)] w' fun e w'' => e = .returned (.bool false) ∧ TK w'' bt 5 0 0 0 D P 0 false none 0 0 (gq P D (t + 1)) ∧ Fr (fun k => k = bt) wr w'') := Lib.hid (fun w' h =>
          (task_run (HT.out.fr h (fun x => x)) (gq_big HPB.out t) (HS0.out.calm h) HTB.out HPB.out (ob_quiet HTR.out) HGS.out HNT.out).mono fun e w'' ⟨h1, h2, _, _, h3⟩ => ⟨by rw [h1, HQ1.out], h2, (h.mono (S' := fun k => k = bt) (fun _ _ x => x.elim)).trans h3 (fun _ _ x => x)⟩)
        have HR2 : Hid (∀ w', Fr (fun k => k = bt) wr w' → TK w' bt 5 0 0 0 D P 0 false none 0 0 (gq P D (t + 1)) → Calls Try.prog 16 #[.pointer (some ⟨bu, 0, none⟩), .int .i64 t, .pointer (some ⟨s, 0, none⟩)] w' fun e w'' => e = .returned (.bool false) ∧ TK w'' bt 5 0 0 0 D P 0 false none 0 0 (gq P D (t + 1)) ∧ TK w'' bu 6 0 0 0 0 0 0 false none 0 0 (false, false, 0) ∧ Fr (fun k => k = bt ∨ k = bu) wr w'') := Lib.hid (fun w' h hT =>
          (task_run (HU.out.fr h HNE.out) HB0.out (HS0.out.fr h (fun i hi e => HNT.out (e ▸ hi))) HTB.out HB0.out (r := (false, true)) rfl (q := (false, false, 0)) rfl HNU.out).mono fun e w'' ⟨h1, h2, _, _, h3⟩ => ⟨h1, hT.fr h3 (fun e => HNE.out e.symm), h2, (h.mono (S' := (fun k => k = bt ∨ k = bu)) (fun _ _ x => .inl x)).trans h3 (fun _ _ x => .inr x)⟩)
        have hF0 : Fr (fun _ => False) wr wr.drew := (Fr.refl _ _).drew
        go_wp2_with fail
        go_region_held3 (fun w' => w'.cell? ⟨rb, 5, none⟩ = some (.int .i64 P) ∧ w'.cell? ⟨rb, 4, none⟩ = some (.int .i64 D))
          (first | exact HS.out _ (by assumption) | exact HS.out _ (Fr.mono (S := fun _ => False) (by assumption) (fun _ _ x => x.elim)) | exact HS.out _ (Fr.mono (S := fun k => k = bt) (by assumption) (fun _ _ x => .inl x)))
          (first
            | (go_at_call_of 16 bt; refine (HR1.out _ (by assumption)).mono ?_; rintro e wA ⟨rfl, TA, FA⟩)
            | (go_at_call_of 16 bu; refine (HR2.out _ (by assumption) (by assumption)).mono ?_; rintro e wB ⟨rfl, TA2, TB, FB⟩))
        have HK : Hid (QtRel W s g sh bt bu rb P D (.int .i64 (t + 1)) wB) := Lib.hid ⟨t + 1, rfl, by have := HTR.out; omega, by have := HTR.out; omega, HS0.out.fr FB (fun i hi h => h.elim (fun e => HNT.out (e ▸ hi)) (fun e => HNU.out (e ▸ hi))), TA2, TB, FB.at_ HRB.out HNR.out, HF.out.step FB (fun i h => by have := HWB.out; omega)⟩
        clear TA TA2 TB FA FB hF0
        go_wp2
        go_roundw
        case rel => exact HK.out
        case measure => simp [intOf]; omega
    · have h3 : ¬ t < 60 := hlt
      go_wp2
      go_ret
      exact ⟨rfl, HF.out.below⟩

end Go.Proofs.Ytbmhgkajjjiniaa
