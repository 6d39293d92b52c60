/- THd. -/
import Derived.Test.YtbmhgkajjjiniaaChecked
import Derived.WalkKit
import Derived.Laws.IdiomCopy
import Derived.Deep.QuietTactic
import Derived.BigQuiet
import Derived.Lib.Hide
import Derived.OpenShut
import Derived.StillTailTactics
import Derived.Deep.RegionWith
import Derived.Deep.RegionLaw
import Derived.Deep.Slices
import Derived.Deep.RegionHeld3
import Derived.OwnWalk
import Derived.Test.YtbmhgkajjjiniaaBase
import Derived.Test.YtbmhgkajjjiniaaCalm
import Derived.Test.YtbmhgkajjjiniaaCalmT
import Derived.Test.YtbmhgkajjjiniaaCel
import Derived.Test.YtbmhgkajjjiniaaApp
import Derived.Test.YtbmhgkajjjiniaaClk
import Derived.Test.YtbmhgkajjjiniaaRV
import Derived.Test.YtbmhgkajjjiniaaRVB
import Derived.Test.YtbmhgkajjjiniaaRVC
import Derived.Test.YtbmhgkajjjiniaaRVA
import Derived.Test.YtbmhgkajjjiniaaCeS
import Derived.Test.YtbmhgkajjjiniaaCeF
import Derived.Test.YtbmhgkajjjiniaaCeG
import Derived.Test.YtbmhgkajjjiniaaCeN
import Derived.Test.YtbmhgkajjjiniaaCeX
import Derived.Test.YtbmhgkajjjiniaaClkR
import Derived.Test.YtbmhgkajjjiniaaSn
import Derived.Test.YtbmhgkajjjiniaaSn2
import Derived.Test.YtbmhgkajjjiniaaCpL
import Derived.Test.YtbmhgkajjjiniaaCel9
import Derived.Test.YtbmhgkajjjiniaaTr
import Derived.Test.YtbmhgkajjjiniaaGCr
import Derived.Test.YtbmhgkajjjiniaaTCh
import Derived.Test.YtbmhgkajjjiniaaGSt
import Derived.Test.YtbmhgkajjjiniaaTOb
import Derived.Test.YtbmhgkajjjiniaaTTk
import Derived.Test.YtbmhgkajjjiniaaTBd
namespace Go.Proofs.Ytbmhgkajjjiniaa
open Go.RowKit
set_option linter.unusedVariables false
set_option linter.unusedSimpArgs false

/-! ### TaskHolds -/
def EHd : El Int := ⟨fun x => [.int .i16 x], 1, fun _ => rfl, Nat.one_pos, 0⟩
theorem Reads.hd {w : World} {b o n : Nat} {xs : List Int} (h : Reads EHd w (some ⟨b, o, none⟩) n xs) {k : Nat} (hk : k < n) : w.cell? ⟨b, o + k, none⟩ = some (.int .i16 (xs.getD k EHd.z)) := by
  have := h.cellj (j := 0) hk Nat.one_pos
  rw [show k * EHd.sz + 0 = k from by simp [EHd]] at this
  exact this
/-- Behind a Bad sample no limit says anything. -/
theorem ob_bad {k x lim bk sp : Int} {ms : List Sn} {now t q v : Int} (hk : k = 1 ∨ k = 2) : ob k x lim bk sp (ms ++ [(t, x, q, v, true)]) now = (false, false) := by
  unfold ob
  rw [if_pos hk, if_neg]
  rw [lt_app, if_pos rfl]
  simp
theorem ob_first {lim v now : Int} : ob 1 0 lim lim 0 [(1, 0, 0, v, false)] now = (decide (lim < v), decide (v ≤ lim)) := by
  unfold ob
  rw [if_pos (.inl rfl)]
  have h1 : gd 0 [(1, 0, 0, v, false)] = [(1, 0, 0, v, false)] := by unfold gd fs; simp
  have h2 : lt_ 0 [(1, 0, 0, v, false)] = (1, false) := by unfold lt_; simp [lsn]
  rw [h1, h2]
  simp [vl, va, gcr]
def HlRel (W : World) (s g : Nat) (sh : List (Nat × Nat)) (b : Nat) (lim : Int) (on : Bool) (n : Nat) (i : Value) (wr : World) : Prop :=
  ∃ (j : Nat) (ms : List Sn), i = .int .i64 j ∧ j ≤ n ∧ SI wr s g sh ms ∧ TK wr b 1 0 lim lim 0 0 0 false none 0 0 (on, false, 0) ∧ Fr (fun _ => False) W wr
set_option maxRecDepth 100000 in
set_option maxHeartbeats 8000000 in
theorem TaskHolds_walk (lim : Int) (on : Bool) (A : Option Addr) (len cap : Nat) (zs : List Int) (W : World) (w0 : (Lit.int .i16 lim).wf = true) (hr : Reads EHd W A len zs)
    (hw : ∀ y, y ∈ zs → (Lit.int .i16 y).wf = true) (hcap : len ≤ cap ∧ cap ≤ maxLen) :
    Calls Try.prog 6 #[.int .i16 lim, .bool on, .slice A len cap] W fun e w' => e = .returned (.bool true) ∧ Below W.heap.size W w' := by
  clear hcap
  have hs0 := bounds_i16 w0
  clear w0
  have HL := Lib.hid hr.1
  have HW := Lib.hid hw
  clear hw
  have HRD := Lib.hid hr
  clear hr
  by_cases hn : len ≤ 30
  · have e0 : ¬ (30 : Int) < (len : Int) := by omega
    obtain ⟨v, hv⟩ : ∃ v : Int, v = if on = true then lim + 1 else lim := ⟨_, rfl⟩
    have hvb : -2147483648 ≤ v ∧ v ≤ 2147483647 := by rw [hv]; split <;> omega
    have HVB := Lib.hid hvb
    have HV := Lib.hid hv
    clear hv hvb
    go_enter Try.func6, Try.ntmps6
    go_wp2_with fail
    refine (bad_any _).mono ?_
    rintro e w1 ⟨rfl, F1⟩
    have Bz5 : (w1.alloc (.cells #[.int .u8 0, .int .i64 0, .int .i64 0, .int .i64 0, .int .i64 0, .int .i64 0, .int .u8 0, .bool false, .slice none 0 0] 27)).heap[w1.heap.size]? = some (.cells #[.int .u8 0, .int .i64 0, .int .i64 0, .int .i64 0, .int .i64 0, .int .i64 0, .int .u8 0, .bool false, .slice none 0 0] 27 (0, 0)) := alloc_is _ rfl
    have Fz5 := (Fr.refl (fun _ => False) w1).alloc (.cells #[.int .u8 0, .int .i64 0, .int .i64 0, .int .i64 0, .int .i64 0, .int .i64 0, .int .u8 0, .bool false, .slice none 0 0] 27)
    generalize hwm5 : w1.alloc (.cells #[.int .u8 0, .int .i64 0, .int .i64 0, .int .i64 0, .int .i64 0, .int .i64 0, .int .u8 0, .bool false, .slice none 0 0] 27) = wm5 at Bz5 Fz5
    obtain ⟨c5_0, c5_1, c5_2, c5_3, c5_4, c5_5, c5_6, c5_7, c5_8⟩ := cells9 Bz5
    have z5_0 := frozen_of Bz5 0
    have z5_1 := frozen_of Bz5 1
    have z5_2 := frozen_of Bz5 2
    have z5_3 := frozen_of Bz5 3
    have z5_4 := frozen_of Bz5 4
    have z5_5 := frozen_of Bz5 5
    have z5_6 := frozen_of Bz5 6
    have z5_7 := frozen_of Bz5 7
    have z5_8 := frozen_of Bz5 8
    have B5 := put9 (y0 := .int .u8 1) (y1 := .int .i64 0) (y2 := .int .i64 lim) (y3 := .int .i64 lim) (y4 := .int .i64 0) (y5 := .int .i64 0) (y6 := .int .u8 0) (y7 := .bool false) (y8 := .slice none 0 0) Bz5
    have Fo5 := (Fr.refl (fun i => i = w1.heap.size) wm5).put9 (b := w1.heap.size) (fun _ => rfl) (.int .u8 1) (.int .i64 0) (.int .i64 lim) (.int .i64 lim) (.int .i64 0) (.int .i64 0) (.int .u8 0) (.bool false) (.slice none 0 0)
    generalize hwo5 : (((((((((wm5.setCell ⟨w1.heap.size, 0, none⟩ (.int .u8 1)).setCell ⟨w1.heap.size, 1, none⟩ (.int .i64 0)).setCell ⟨w1.heap.size, 2, none⟩ (.int .i64 lim)).setCell ⟨w1.heap.size, 3, none⟩ (.int .i64 lim)).setCell ⟨w1.heap.size, 4, none⟩ (.int .i64 0)).setCell ⟨w1.heap.size, 5, none⟩ (.int .i64 0)).setCell ⟨w1.heap.size, 6, none⟩ (.int .u8 0)).setCell ⟨w1.heap.size, 7, none⟩ (.bool false)).setCell ⟨w1.heap.size, 8, none⟩ (.slice none 0 0)) = wo5 at B5 Fo5
    have FF5 := Fz5.trans Fo5 (fun i hi (h : i = w1.heap.size) => by omega)
    obtain ⟨d5_0, d5_1, d5_2, d5_3, d5_4, d5_5, d5_6, d5_7, d5_8⟩ := cells9 B5
    have HF2 := Lib.hid (F1.step FF5 nop)
    go_wp2_with fail
    refine (task_new _ 1 0 lim lim 0 0 0 false none 0 0).mono ?_
    rintro e w3 ⟨b, rfl, T3, hb1, hb2, F3⟩
    clear c5_0 z5_0 c5_1 z5_1 c5_2 z5_2 c5_3 z5_3 c5_4 z5_4 c5_5 z5_5 c5_6 z5_6 c5_7 z5_7 c5_8 z5_8 d5_0 d5_1 d5_2 d5_3 d5_4 d5_5 d5_6 d5_7 d5_8 Bz5 Fz5 Fo5 hwm5 hwo5
    clear FF5 B5 F1
    have HWB : Hid (W.heap.size ≤ b) := Lib.hid (by have := HF2.out.size; omega)
    have HF3 := Lib.hid (HF2.out.step F3 nop)
    have HT3 := Lib.hid T3
    have HB3 := Lib.hid hb2
    clear F3 T3 hb1 hb2
    go_wp2_with fail
    refine (si_new _ 1 (N := 1) rfl).mono ?_
    rintro e w4 ⟨s, g, sh, rfl, hsl, S4, F4, hup⟩
    have HNB : Hid (¬ inSt s g sh b) := Lib.hid (fun h => by have := hup b h; have := HB3.out; omega)
    have HUP : Hid (∀ i, inSt s g sh i → W.heap.size ≤ i) := Lib.hid (fun i hi => Nat.le_trans HF3.out.size (hup i hi))
    have HSL := Lib.hid hsl
    have HS4 := Lib.hid S4
    have HT4 := Lib.hid (HT3.out.fr F4 (fun x => x))
    have HF4 := Lib.hid (HF3.out.step F4 nop)
    clear hup hsl S4 F4 HT3 HF3 HF2
    have HB0 : Hid (BigI 0) := Lib.hid (by unfold BigI; omega)
    have HB1 : Hid (BigI 1) := Lib.hid (by unfold BigI; omega)
    have HG1 : Hid (gs (false, false, 0) 1 (decide (lim < v)) (decide (v ≤ lim)) 0 = (on, false, 0)) := Lib.hid (by
      rw [HV.out]
      cases on
      · rw [if_neg (by simp), decide_eq_false (by omega)]; unfold gs; simp
      · rw [if_pos rfl, decide_eq_true (show lim < lim + 1 by omega), decide_eq_false (show ¬ lim + 1 ≤ lim by omega)]; decide)
    cases on
    case false =>
      have hve := HV.out
      simp only [Bool.false_eq_true, if_false] at hve
      replace hve := hve.symm
      subst hve
      go_wp2_with fail
      refine (si_put HS4.out 0 1 0 lim false (by have := HSL.out; omega) HB1.out HVB.out).mono ?_
      rintro e w5 ⟨rfl, S5, F5⟩
      have HS5 := Lib.hid S5
      have HT5 := Lib.hid (HT4.out.fr F5 HNB.out)
      have HF5 := Lib.hid (HF4.out.step F5 HUP.out)
      clear S5 F5 HS4 HT4 HF4
      go_wp2_with fail
      refine (task_run HT5.out HB0.out HS5.out HB1.out HB0.out (r := (decide (lim < lim), decide (lim ≤ lim))) ob_first HG1.out HNB.out).mono ?_
      rintro e w6 ⟨rfl, T6, -, S6, F6⟩
      have HS6 := Lib.hid S6
      have HT6 := Lib.hid T6
      have HF6 := Lib.hid (HF5.out.step F6 (fun i h => by subst h; exact HWB.out))
      clear S6 T6 F6 HS5 HT5 HF5 HG1
      have HRL : Hid (HlRel W s g sh b lim false len (.int .i64 0) w6) := Lib.hid ⟨0, _, rfl, Nat.zero_le _, HS6.out, HT6.out, HF6.out⟩
      clear HS6 HT6 HF6 HV HVB
      go_wp2_with fail
      go_loopw [11] (fun i wr => HlRel W s g sh b lim false len i wr) (fun i _ => len - (intOf i).toNat)
      case atStart => exact HRL.out
      case round =>
        clear HRL
        obtain ⟨j, ms, rfl, hj, Sj, Tj, Fj⟩ := hrel
        have HSj := Lib.hid Sj
        have HTj := Lib.hid Tj
        have HFj := Lib.hid Fj
        clear Sj Tj Fj
        by_cases hlt : j < len
        · have rz := HRD.out.fr HFj.out (fun _ _ x => x)
          obtain ⟨zb, zo, rfl, hzb⟩ := rz.plain (by omega)
          have hwf := bounds_i16 (HW.out (zs.getD j EHd.z) (by have := HL.out; simp [List.getD_eq_getElem?_getD, this, hlt]))
          have l0 := rz.hd hlt
          generalize zs.getD j EHd.z = y at hwf l0
          have hlt' : (j : Int) < (len : Int) := by omega
          have HBT : Hid (BigI (2 + (j : Int))) := Lib.hid (by unfold BigI; omega)
          have HYB : Hid (-2147483648 ≤ y ∧ y ≤ 2147483647) := Lib.hid (by omega)
          clear rz
          go_wp2_with fail
          refine (si_put HSj.out 0 (2 + (j : Int)) 0 y true (by have := HSL.out; omega) HBT.out HYB.out).mono ?_
          rintro e w7 ⟨rfl, S7, F7⟩
          have HS7 := Lib.hid S7
          have HT7 := Lib.hid (HTj.out.fr F7 HNB.out)
          have HF7 := Lib.hid (HFj.out.step F7 HUP.out)
          clear S7 F7 HSj HTj HFj l0
          go_wp2_with fail
          refine (task_run HT7.out HB0.out HS7.out HBT.out HB0.out (r := (false, false)) (ob_bad (.inl rfl)) (q := (false, false, 0)) (by rfl) HNB.out).mono ?_
          rintro e w8 ⟨rfl, T8, -, S8, F8⟩
          have HS8 := Lib.hid S8
          have HT8 := Lib.hid T8
          have HF8 := Lib.hid (HF7.out.step F8 (fun i h => by subst h; exact HWB.out))
          clear S8 T8 F8 HS7 HT7 HF7
          go_wp2
          go_roundw
          case rel => exact ⟨j + 1, _, by go_num, by omega, HS8.out, HT8.out, HF8.out⟩
          case measure => simp [intOf]; omega
        · have h3 : ¬ (j : Int) < (len : Int) := by omega
          go_wp2
          go_ret
          exact ⟨rfl, HFj.out.below⟩
    case true =>
      have hve := HV.out
      simp only [if_true] at hve
      subst hve
      go_wp2_with fail
      refine (si_put HS4.out 0 1 0 (lim + 1) false (by have := HSL.out; omega) HB1.out HVB.out).mono ?_
      rintro e w5 ⟨rfl, S5, F5⟩
      have HS5 := Lib.hid S5
      have HT5 := Lib.hid (HT4.out.fr F5 HNB.out)
      have HF5 := Lib.hid (HF4.out.step F5 HUP.out)
      clear S5 F5 HS4 HT4 HF4
      go_wp2_with fail
      refine (task_run HT5.out HB0.out HS5.out HB1.out HB0.out (r := (decide (lim < (lim + 1)), decide ((lim + 1) ≤ lim))) ob_first HG1.out HNB.out).mono ?_
      rintro e w6 ⟨rfl, T6, -, S6, F6⟩
      have HS6 := Lib.hid S6
      have HT6 := Lib.hid T6
      have HF6 := Lib.hid (HF5.out.step F6 (fun i h => by subst h; exact HWB.out))
      clear S6 T6 F6 HS5 HT5 HF5 HG1
      have HRL : Hid (HlRel W s g sh b lim true len (.int .i64 0) w6) := Lib.hid ⟨0, _, rfl, Nat.zero_le _, HS6.out, HT6.out, HF6.out⟩
      clear HS6 HT6 HF6 HV HVB
      go_wp2_with fail
      go_loopw [11] (fun i wr => HlRel W s g sh b lim true len i wr) (fun i _ => len - (intOf i).toNat)
      case atStart => exact HRL.out
      case round =>
        clear HRL
        obtain ⟨j, ms, rfl, hj, Sj, Tj, Fj⟩ := hrel
        have HSj := Lib.hid Sj
        have HTj := Lib.hid Tj
        have HFj := Lib.hid Fj
        clear Sj Tj Fj
        by_cases hlt : j < len
        · have rz := HRD.out.fr HFj.out (fun _ _ x => x)
          obtain ⟨zb, zo, rfl, hzb⟩ := rz.plain (by omega)
          have hwf := bounds_i16 (HW.out (zs.getD j EHd.z) (by have := HL.out; simp [List.getD_eq_getElem?_getD, this, hlt]))
          have l0 := rz.hd hlt
          generalize zs.getD j EHd.z = y at hwf l0
          have hlt' : (j : Int) < (len : Int) := by omega
          have HBT : Hid (BigI (2 + (j : Int))) := Lib.hid (by unfold BigI; omega)
          have HYB : Hid (-2147483648 ≤ y ∧ y ≤ 2147483647) := Lib.hid (by omega)
          clear rz
          go_wp2_with fail
          refine (si_put HSj.out 0 (2 + (j : Int)) 0 y true (by have := HSL.out; omega) HBT.out HYB.out).mono ?_
          rintro e w7 ⟨rfl, S7, F7⟩
          have HS7 := Lib.hid S7
          have HT7 := Lib.hid (HTj.out.fr F7 HNB.out)
          have HF7 := Lib.hid (HFj.out.step F7 HUP.out)
          clear S7 F7 HSj HTj HFj l0
          go_wp2_with fail
          refine (task_run HT7.out HB0.out HS7.out HBT.out HB0.out (r := (false, false)) (ob_bad (.inl rfl)) (q := (true, false, 0)) (by rfl) HNB.out).mono ?_
          rintro e w8 ⟨rfl, T8, -, S8, F8⟩
          have HS8 := Lib.hid S8
          have HT8 := Lib.hid T8
          have HF8 := Lib.hid (HF7.out.step F8 (fun i h => by subst h; exact HWB.out))
          clear S8 T8 F8 HS7 HT7 HF7
          go_wp2
          go_roundw
          case rel => exact ⟨j + 1, _, by go_num, by omega, HS8.out, HT8.out, HF8.out⟩
          case measure => simp [intOf]; omega
        · have h3 : ¬ (j : Int) < (len : Int) := by omega
          go_wp2
          go_ret
          exact ⟨rfl, HFj.out.below⟩
  · have e0 : (30 : Int) < (len : Int) := by omega
    go_enter Try.func6, Try.ntmps6
    go_wp2_with fail
    refine (bad_any _).mono ?_
    rintro e w1 ⟨rfl, F1⟩
    go_wp2_with fail
    refine (bad_any _).mono ?_
    rintro e w2 ⟨rfl, F2⟩
    have HF := Lib.hid (F1.step F2 nop)
    go_wp2
    go_ret
    exact ⟨rfl, HF.out.below⟩

end Go.Proofs.Ytbmhgkajjjiniaa
