/- BAd. -/
import Derived.Test.YtlhgocjolndipaaChecked
import Derived.WalkKit
import Derived.Laws.IdiomCopy
import Derived.Deep.QuietTactic
import Derived.BigQuiet
import Derived.Lib.Hide
import Derived.OpenShut
import Derived.StillTailTactics
import Derived.Deep.RegionWith
import Derived.Deep.RegionLaw
import Derived.Deep.Slices
import Derived.Deep.RegionHeld3
import Derived.Test.YtlhgocjolndipaaBase
import Derived.Test.YtlhgocjolndipaaCalm
import Derived.Test.YtlhgocjolndipaaCalmT
import Derived.Test.YtlhgocjolndipaaCel
import Derived.Test.YtlhgocjolndipaaApp
import Derived.Test.YtlhgocjolndipaaREnt
import Derived.Test.YtlhgocjolndipaaREntB
import Derived.Test.YtlhgocjolndipaaREntC
import Derived.Test.YtlhgocjolndipaaREntA
import Derived.Test.YtlhgocjolndipaaBk
import Derived.Test.YtlhgocjolndipaaBkR
import Derived.Test.YtlhgocjolndipaaBkL
namespace Go.Proofs.Ytlhgocjolndipaa
open Go.RowKit
set_option linter.unusedVariables false
set_option linter.unusedSimpArgs false

/-! ### BookAdds -/
structure AdRel (W : World) (k b a mb c : Nat) (n0 : Int) (n : Nat) (zs : List (Int × Int × Int)) (j : Nat) (Am : Option Addr) (cm : Nat) (wr : World) : Prop where
  book : Bk wr k b a c (REnt.last c (zs.take j)) (j : Int)
  m : wr.heap[mb]? = some (.cells #[.int .i64 n0, .slice Am j cm] 27 (0, 0))
  r : Reads REnt.E wr Am j (zs.take j)
  cap : j ≤ cm
  le : j ≤ n
  ne : ∀ ad, Am = some ad → ad.block ≠ k ∧ ad.block ≠ b ∧ ad.block ≠ a ∧ ad.block ≠ mb
  lt : ∀ ad, Am = some ad → W.heap.size ≤ ad.block
  fr : Fr (fun _ => False) W wr
def AdR (W : World) (k b a mb c : Nat) (n0 : Int) (n : Nat) (zs : List (Int × Int × Int)) (i : Value) (wr : World) : Prop :=
  ∃ (j : Nat) (Am : Option Addr) (cm : Nat), i = .int .i64 j ∧ AdRel W k b a mb c n0 n zs j Am cm wr
theorem take_more3 {α : Type} {zs : List α} {z : α} {k : Nat} (h : k < zs.length) : zs.take k ++ [zs.getD k z] = zs.take (k + 1) := by
  rw [List.take_succ_eq_append_getElem h]; simp [List.getD_eq_getElem?_getD, h]
set_option maxRecDepth 100000 in
set_option maxHeartbeats 6400000 in
theorem BookAdds_walk (n0 : Int) (A : Option Addr) (n cap : Nat) (zs : List (Int × Int × Int)) (W : World) (w0 : (Lit.int .i64 n0).wf = true) (hr : Reads REnt.E W A n zs)
    (hw : ∀ y, y ∈ zs → (Lit.int .i64 y.1).wf = true ∧ (Lit.int .u8 y.2.1).wf = true ∧ (Lit.int .i64 y.2.2).wf = true) (hcap : n ≤ cap ∧ cap ≤ maxLen) :
    Calls Try.prog 3 #[.int .i64 n0, .slice A n cap] W fun e w' => e = .returned (.bool true) ∧ Below W.heap.size W w' := by
  clear hw w0
  by_cases hn : n ≤ 100
  · have e0 : ¬ (100 : Int) < (n : Int) := by omega
    have HL := Lib.hid hr.1
    go_enter Try.func3, Try.ntmps3
    go_wp2_with fail
    refine (lost_any _).mono ?_
    rintro e w1 ⟨rfl, F1⟩
    go_wp2_with fail
    refine (bk_new w1 n0).mono ?_
    rintro e w2 ⟨k, b, a, rfl, K2, F2, hk, hb, ha⟩
    obtain ⟨c, hc⟩ : ∃ c, c = REnt.room n0 := ⟨_, rfl⟩
    rw [← hc] at K2
    have HC := Lib.hid hc
    clear hc
    have Bz3 : (w2.alloc (.cells #[.int .i64 0, .slice none 0 0] 27)).heap[w2.heap.size]? = some (.cells #[.int .i64 0, .slice none 0 0] 27 (0, 0)) := alloc_is _ rfl
    have Fz3 := (Fr.refl (fun _ => False) w2).alloc (.cells #[.int .i64 0, .slice none 0 0] 27)
    generalize hwm3 : w2.alloc (.cells #[.int .i64 0, .slice none 0 0] 27) = wm3 at Bz3 Fz3
    obtain ⟨c3_0, c3_1⟩ := cells2 Bz3
    have z3_0 := frozen_of Bz3 0
    have z3_1 := frozen_of Bz3 1
    have B3 := put2y (y0 := .int .i64 n0) (y1 := .slice none 0 0) Bz3
    have Fo3 := (Fr.refl (fun i => i = w2.heap.size) wm3).put2 (b := w2.heap.size) (fun _ => rfl) (.int .i64 n0) (.slice none 0 0)
    generalize hwo3 : ((wm3.setCell ⟨w2.heap.size, 0, none⟩ (.int .i64 n0)).setCell ⟨w2.heap.size, 1, none⟩ (.slice none 0 0)) = wo3 at B3 Fo3
    have FF3 := Fz3.trans Fo3 (fun i hi (h : i = w2.heap.size) => by omega)
    obtain ⟨d3_0, d3_1⟩ := cells2 B3
    have K3 := K2.fr FF3 (fun x => x) (fun x => x) (fun x => x)
    have FW3 := (F1.step F2 nop).step FF3 nop
    have hmb : W.heap.size ≤ w2.heap.size := (F1.step F2 nop).size
    have hk' : W.heap.size ≤ k := Nat.le_trans F1.size hk
    have hb' : W.heap.size ≤ b := Nat.le_trans F1.size hb
    have ha' : W.heap.size ≤ a := Nat.le_trans F1.size ha
    have hkm : k ≠ w2.heap.size := by have := lt_of K2.1; omega
    have hbm : b ≠ w2.heap.size := by have := K2.2.1.lb; omega
    have ham : a ≠ w2.heap.size := by have := K2.2.1.la; omega
    go_wp2_with fail
    have HA : Hid (AdRel W k b a w2.heap.size c n0 n zs 0 none 0 wo3) := Lib.hid ⟨by simpa [REnt.last] using K3, B3, ⟨by simp, .inl rfl⟩, Nat.le_refl _, Nat.zero_le _, (fun ad h => by cases h), (fun ad h => by cases h), FW3⟩
    clear c3_0 z3_0 c3_1 z3_1 d3_0 d3_1 Bz3 Fz3 Fo3 hwm3 hwo3
    clear F1 F2 FF3 K2 K3 FW3 B3 hk hb ha
    generalize w2.heap.size = mb at hmb hkm hbm ham HA ⊢
    go_loopw [7] (fun i wr => AdR W k b a mb c n0 n zs i wr) (fun i _ => n - (intOf i).toNat)
    case atStart => exact ⟨0, none, 0, rfl, HA.out⟩
    case round =>
      clear HA
      obtain ⟨j, Am, cm, rfl, R⟩ := hrel
      have HR := Lib.hid R
      have hjn := R.le
      by_cases hlt : j < n
      · have rz := hr.fr R.fr (fun _ _ x => x)
        clear R
        obtain ⟨zb, zo, rfl, hzb⟩ := rz.plain (by omega)
        obtain ⟨y, hy⟩ : ∃ y, zs.getD j REnt.E.z = y := ⟨_, rfl⟩
        obtain ⟨y0, y1, y2⟩ := y
        obtain ⟨n0', n1', n2'⟩ := rz.entC hlt hy
        have hlt' : (j : Int) < (n : Int) := by omega
        have HT := Lib.hid (show zs.take j ++ [(y0, y1, y2)] = zs.take (j + 1) from by rw [← hy]; exact take_more3 (by have := HL.out; omega))
        have HY := Lib.hid hy
        clear hy
        go_wp2_with fail
        (refine wp_region_calm_tail 16 (by kernel_rfl) (by kernel_rfl) ?_; simp only [List.take_succ_cons, List.take_zero, List.drop_succ_cons, List.drop_zero]; (repeat (go_big_quiet_step (fail))); refine wpQuiet_nil ?_; intro _ hwq0; obtain ⟨nq, hwq1⟩ := hwq0; subst hwq1)
        have F1 := nq.fr
        generalize nq.to = w1 at F1 ⊢
        clear n0' n1' n2'
        go_wp2_with fail
        refine (bk_add (HR.out.book.fr F1 (fun x => x) (fun x => x) (fun x => x)) y0 y1 y2 (by omega)).mono ?_
        rintro e w2 ⟨rfl, K2, F2⟩
        rw [HT.out] at K2
        have FW2 := (HR.out.fr.step F1 nop).step F2 (or3 hk' hb' ha')
        have M2 := F2.at_ (F1.at_ HR.out.m (fun x => x)) (by omega)
        have r2 := (HR.out.r.fr F1 (fun _ _ x => x)).fr F2 (fun ad h1 h2 => by have := HR.out.ne ad h1; omega)
        have rz2 := hr.fr FW2 (fun _ _ x => x)
        clear F1 F2 rz
        obtain ⟨n0', n1', n2'⟩ := rz2.entC hlt HY.out
        obtain ⟨m0, m1⟩ := Calm.cells2 M2
        go_wp2_with fail
        (refine wp_region_calm_tail 16 (by kernel_rfl) (by kernel_rfl) ?_; simp only [List.take_succ_cons, List.take_zero, List.drop_succ_cons, List.drop_zero]; (repeat (go_big_quiet_step (fail))); refine wpQuiet_nil ?_; intro _ hwq0; obtain ⟨nq, hwq1⟩ := hwq0; subst hwq1)
        have F3 := nq.fr
        generalize nq.to = w3 at F3 ⊢
        clear n0' n1' n2' m0 m1
        go_wp2_with fail
        refine (radd w3 n0 Am j cm (zs.take j) y0 y1 y2 (r2.fr F3 (fun _ _ x => x)) (by omega)).mono ?_
        rintro e w4 ⟨A4, c4, rfl, r4, hc4, hA4, F4⟩
        rw [HT.out] at r4
        have K4 := (K2.fr F3 (fun x => x) (fun x => x) (fun x => x)).fr F4 (fun x => x) (fun x => x) (fun x => x)
        have M4 := F4.at_ (F3.at_ M2 (fun x => x)) (fun x => x)
        have FW4 := (FW2.step F3 nop).step F4 nop
        have hs3 := (FW2.step F3 nop).size
        have K3 := K2.fr F3 (fun x => x) (fun x => x) (fun x => x)
        have hne4 : ∀ ad, A4 = some ad → ad.block ≠ k ∧ ad.block ≠ b ∧ ad.block ≠ a ∧ ad.block ≠ mb := fun ad h => by
          have h1 := hA4 ad h
          have h2 := lt_of K3.1
          have h3 := K3.2.1.lb
          have h4 := K3.2.1.la
          have h5 := lt_of (F3.at_ M2 (fun x => x))
          omega
        have HNE := Lib.hid hne4
        have HLT : Hid (∀ ad, A4 = some ad → W.heap.size ≤ ad.block) := Lib.hid (fun ad h => Nat.le_trans hs3 (hA4 ad h))
        clear F3 F4 FW2 M2 r2 rz2 K2 K3 hne4 hA4
        obtain ⟨q0, q1⟩ := cells2 M4
        have zz0 := frozen_of M4 0
        have zz1 := frozen_of M4 1
        have B5 := put2y (y0 := .int .i64 n0) (y1 := .slice A4 (j + 1) c4) M4
        have G5 := (Fr.refl (fun i => i = mb) w4).put2 (b := mb) (fun _ => rfl) (.int .i64 n0) (.slice A4 (j + 1) c4)
        have K5 := K4.fr G5 (by omega) (by omega) (by omega)
        have r5 := r4.fr G5 (fun ad h1 h2 => by have := HNE.out ad h1; omega)
        have FW5 := FW4.step G5 (fun i (h : i = mb) => by omega)
        generalize hw5 : (w4.setCell ⟨mb, 0, none⟩ (.int .i64 n0)).setCell ⟨mb, 1, none⟩ (.slice A4 (j + 1) c4) = w5 at B5 K5 r5 FW5
        clear G5 K4 r4 FW4
        have HM5 := Lib.hid B5
        have HF5 := Lib.hid FW5
        obtain ⟨d0, d1⟩ := cells2 B5
        go_wp2_with fail
        clear q0 q1 zz0 zz1 hw5 FW5
        have HJ := Lib.hid (show (zs.take (j + 1)).length = j + 1 from by rw [List.length_take]; have := HL.out; omega)
        have hll : (REnt.last c (zs.take (j + 1))).length ≤ j + 1 := by rw [REnt.last_len, HJ.out]; omega
        have HCk := Lib.hid HC.out
        have HRall : Hid (∀ w', Fr (fun _ => False) w5 w' → Calls Try.prog 13 #[.agg #[.int .i64 n0, .slice A4 (j + 1) c4]] w' fun e w'' => ∃ A c', e = .returned (.slice A (REnt.last c (zs.take (j + 1))).length c') ∧ Reads REnt.E w'' A (REnt.last c (zs.take (j + 1))).length (REnt.last c (zs.take (j + 1))) ∧ Fr (fun _ => False) w' w'' ∧ Fr (fun _ => False) w5 w'') := Lib.hid (fun w' h => by
          rw [HC.out]
          exact (rall w' n0 A4 (j + 1) c4 (zs.take (j + 1)) (r5.fr h (fun _ _ x => x)) (by omega) hc4).mono fun e w'' ⟨A, c', h1, h2, h3⟩ => ⟨A, c', h1, h2, h3, h.step h3 nop⟩)
        have HAll : Hid (∀ w', Fr (fun _ => False) w5 w' → Calls Try.prog 12 #[.pointer (some ⟨k, 0, none⟩)] w' fun e w'' => ∃ A c', e = .returned (.slice A (REnt.last c (zs.take (j + 1))).length c') ∧ Reads REnt.E w'' A (REnt.last c (zs.take (j + 1))).length (REnt.last c (zs.take (j + 1))) ∧ Fr (fun _ => False) w' w'' ∧ Fr (fun _ => False) w5 w'') := Lib.hid (fun w' h =>
          (bk_all (K5.fr h (fun x => x) (fun x => x) (fun x => x))).mono fun e w'' ⟨A, c', h1, h2, h3, _⟩ => ⟨A, c', h1, h2, h3, h.step h3 nop⟩)
        have HCount : Hid (∀ w', Fr (fun _ => False) w5 w' → Calls Try.prog 14 #[.pointer (some ⟨k, 0, none⟩)] w' fun e w'' => e = .returned (.int .i64 ((j : Int) + 1)) ∧ Fr (fun _ => False) w5 w'') := Lib.hid (fun w' h =>
          (bk_count (K5.fr h (fun x => x) (fun x => x) (fun x => x))).mono fun e w'' ⟨h1, h3⟩ => ⟨h1, h.step h3 nop⟩)
        have HLost : Hid (∀ w', Fr (fun _ => False) w5 w' → Calls Try.prog 15 #[.pointer (some ⟨k, 0, none⟩)] w' fun e w'' => e = .returned (.int .i64 ((j : Int) + 1 - ((REnt.last c (zs.take (j + 1))).length : Int))) ∧ Fr (fun _ => False) w5 w'') := Lib.hid (fun w' h =>
          (bk_lost (K5.fr h (fun x => x) (fun x => x) (fun x => x)) (by omega) (by omega)).mono fun e w'' ⟨h1, h3⟩ => ⟨h1, h.step h3 nop⟩)
        have HS : Hid (∀ w', Fr (fun _ => False) w5 w' → w'.cell? ⟨mb, 0, none⟩ = some (.int .i64 n0) ∧ w'.cell? ⟨mb, 1, none⟩ = some (.slice A4 (j + 1) c4)) := Lib.hid (fun w' h => cells2 (h.at_ HM5.out (fun x => x)))
        have hF0 : Fr (fun _ => False) w5 w5.drew := (Fr.refl _ _).drew
        have HK5 := Lib.hid K5
        have HR5 := Lib.hid r5
        clear K5 r5
        generalize hlst : REnt.last c (zs.take (j + 1)) = lst at hll HRall HAll HLost
        have HLst := Lib.hid hlst
        clear hlst
        have HLL := Lib.hid (show lst.length ≤ 100000 by omega)
        have g1 : IntKind.i64.wrap ((j : Int) + 1) = (j : Int) + 1 := IntWalk.i64_in _ (by omega)
        have g2 : IntKind.i64.wrap ((j : Int) + 1 - (lst.length : Int)) = (j : Int) + 1 - (lst.length : Int) := IntWalk.i64_in _ (by omega)
        go_region_held3 (fun w' => w'.cell? ⟨mb, 0, none⟩ = some (.int .i64 n0) ∧ w'.cell? ⟨mb, 1, none⟩ = some (.slice A4 (j + 1) c4))
          (exact HS.out _ (by assumption))
          (first
            | (go_at_call 12; refine (HAll.out _ (by assumption)).mono ?_; rintro e wA ⟨A7, c7, rfl, r7, F7l, F7⟩)
            | (go_at_call 13; refine (HRall.out _ (by assumption)).mono ?_; rintro e wB ⟨A8, c8, rfl, r8, F8l, F8⟩; (try have r78 := r7.fr F8l (fun _ _ x => x)))
            | (go_at_call 11; refine (rsame _ _ _ _ _ _ _ r78 r8 HLL.out).mono ?_; rintro e wC ⟨rfl, F9l⟩; have F9 := F8.step F9l nop)
            | (go_at_call 14; refine (HCount.out _ (by assumption)).mono ?_; rintro e wD ⟨rfl, F10⟩)
            | (go_at_call 15; refine (HLost.out _ (by assumption)).mono ?_; rintro e wE ⟨rfl, F11⟩))
        have HFin : Hid (AdRel W k b a mb c n0 n zs (j + 1) A4 c4 wB) := Lib.hid ⟨by exact_mod_cast HK5.out.fr F8 (fun x => x) (fun x => x) (fun x => x), F8.at_ HM5.out (fun x => x), HR5.out.fr F8 (fun _ _ x => x), hc4, by omega, HNE.out, HLT.out, HF5.out.step F8 nop⟩
        clear g1 g2 F7 F7l F8 F8l F9 F9l F10 F11 r7 r8 r78 hF0
        go_wp2
        go_roundw
        case rel => exact ⟨j + 1, A4, c4, by go_num, HFin.out⟩
        case measure => simp [intOf]; omega
      · have h3 : ¬ (j : Int) < (n : Int) := by omega
        have HF := Lib.hid R.fr
        clear R
        go_wp2
        go_ret
        exact ⟨rfl, HF.out.below⟩
  · have e0 : (100 : Int) < (n : Int) := by omega
    go_enter Try.func3, Try.ntmps3
    go_wp2_with fail
    refine (lost_any _).mono ?_
    rintro e w1 ⟨rfl, F1⟩
    go_wp2_with fail
    refine (lost_any _).mono ?_
    rintro e w2 ⟨rfl, F2⟩
    go_wp2
    go_ret
    exact ⟨rfl, (F1.step F2 nop).below⟩

end Go.Proofs.Ytlhgocjolndipaa
