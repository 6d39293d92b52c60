/- Bo. -/
import Derived.Test.YtcpapadkdeajaaaChecked
import Derived.WalkKit
import Derived.Laws.IdiomCopy
import Derived.Deep.QuietTactic
import Derived.BigQuiet
import Derived.Lib.Hide
import Derived.OpenShut
import Derived.StillTailTactics
import Derived.Deep.RegionWith
import Derived.Deep.RegionLaw
import Derived.Deep.Slices
import Derived.Deep.RegionHeld3
import Derived.OwnWalk
import Derived.Test.YtcpapadkdeajaaaBase
import Derived.Test.YtcpapadkdeajaaaCalm
import Derived.Test.YtcpapadkdeajaaaCalmT
import Derived.Test.YtcpapadkdeajaaaCel
import Derived.Test.YtcpapadkdeajaaaApp
import Derived.Test.YtcpapadkdeajaaaRE
import Derived.Test.YtcpapadkdeajaaaREB
import Derived.Test.YtcpapadkdeajaaaREC
import Derived.Test.YtcpapadkdeajaaaREA
import Derived.Test.YtcpapadkdeajaaaBq
import Derived.Test.YtcpapadkdeajaaaBp
import Derived.Test.YtcpapadkdeajaaaBx
import Derived.Test.YtcpapadkdeajaaaBn
namespace Go.Proofs.Ytcpapadkdeajaaa
open Go.RowKit
set_option linter.unusedVariables false
set_option linter.unusedSimpArgs false

/-! ### BandOrder -/
def BoP (W : World) (q : Nat) (qs : Nat → Nat × Nat) (zs : List Int) (n : Nat) (i : Value) (wr : World) : Prop :=
  ∃ (j : Nat) (ls : Nat → List Ev), i = .int .i64 j ∧ j ≤ n ∧ Onc zs j false ls ∧ tot ls = j ∧ Qu wr q qs (tri 200 200 200) ls ∧ Fr (fun _ => False) W wr
def LastR (last rule : Int) (ls : Nat → List Ev) : Prop := ∀ i, i < 3 → ls i ≠ [] → (i : Int) + 1 ≤ last ∧ ((i : Int) + 1 = last → ∀ y, y ∈ ls i → rule ≤ y.1)
def BoT (W : World) (q : Nat) (qs : Nat → Nat × Nat) (zs : List Int) (n : Nat) (la ru i : Value) (wr : World) : Prop :=
  ∃ (j : Nat) (last rule : Int) (ls : Nat → List Ev), la = .int .u8 last ∧ ru = .int .i64 rule ∧ i = .int .i64 j ∧ j ≤ n ∧ 0 ≤ last ∧ last ≤ 9 ∧ -1 ≤ rule ∧ rule ≤ 100 ∧ Onc zs n false ls ∧ tot ls + j = n ∧ LastR last rule ls ∧ Qu wr q qs (tri 200 200 200) ls ∧ Fr (fun _ => False) W wr
theorem LastR.next {last rule : Int} {zs : List Int} {n : Nat} {ls : Nat → List Ev} (h : Onc zs n false ls) {i : Nat} (hi : i < 3) {x : Ev} {l : List Ev} (hl : ls i = x :: l) (hab : ∀ m, i < m → m < 3 → ls m = []) : LastR ((i : Int) + 1) x.1 (upd ls i l) := by
  intro j hj hne
  by_cases e : j = i
  · subst e
    refine ⟨Int.le_refl _, fun _ y hy => ?_⟩
    rw [upd_same] at hy
    have := h.inc j hj
    rw [hl] at this
    have := (List.pairwise_cons.1 this).1 y hy
    omega
  · rw [upd_ne _ e] at hne
    have : j < i := by
      by_cases h2 : i < j
      · exact absurd (hab j h2 hj) hne
      · omega
    exact ⟨by omega, fun h => by omega⟩
set_option maxRecDepth 100000 in
set_option maxHeartbeats 8000000 in
theorem BandOrder_walk (A : Option Addr) (len cap : Nat) (zs : List Int) (W : World) (hr : Reads EBy W A len zs) (hw : ∀ y, y ∈ zs → (Lit.int .u8 y).wf = true) (hcap : len ≤ cap ∧ cap ≤ maxLen) :
    Calls Try.prog 3 #[.slice A len cap] W fun e w' => e = .returned (.bool true) ∧ Below W.heap.size W w' := by
  clear hcap
  have HL := Lib.hid hr.1
  have HW := Lib.hid hw
  have HRD := Lib.hid hr
  clear hw hr
  by_cases hn : len ≤ 100
  · have e0 : ¬ (100 : Int) < (len : Int) := by omega
    go_enter Try.func3, Try.ntmps3
    go_wp2_with fail
    refine (first_any _).mono ?_
    rintro e w1 ⟨rfl, F1⟩
    go_wp2_with fail
    refine (qnew _ 200 200 200).mono ?_
    rintro e w2 ⟨q, qs, rfl, Q2, F2, hup0⟩
    rw [show RE.room 200 = 200 from by decide] at Q2
    have HUP : Hid (∀ k, inQ q qs k → W.heap.size ≤ k) := Lib.hid (fun k hk => Nat.le_trans F1.size (hup0 k hk))
    have HRL : Hid (BoP W q qs zs len (.int .i64 0) w2) := Lib.hid ⟨0, _, rfl, Nat.zero_le _, Onc.nil _ _, rfl, Q2, F1.step F2 nop⟩
    clear Q2 F1 F2 hup0
    go_wp2_with fail
    go_loopw [4] (fun i wr => BoP W q qs zs len i wr) (fun i _ => len - (intOf i).toNat)
    case atStart => exact HRL.out
    case round =>
      clear HRL
      obtain ⟨j, ls, rfl, hj, ho, ht, Q, F⟩ := hrel
      have HQ := Lib.hid Q
      have HF := Lib.hid F
      have HO := Lib.hid ho
      have HT := Lib.hid ht
      clear Q F ho ht
      by_cases hlt : j < len
      · have rz := HRD.out.fr HF.out (fun _ _ x => x)
        obtain ⟨zb, zo, rfl, hzb⟩ := rz.plain (by omega)
        have hwf := bounds_u8 (HW.out (zs.getD j EBy.z) (by have := HL.out; simp [List.getD_eq_getElem?_getD, this, hlt]))
        have l0 := rz.by_ hlt
        obtain ⟨y, hy⟩ : ∃ y, zs.getD j EBy.z = y := ⟨_, rfl⟩
        rw [hy] at hwf l0
        obtain ⟨i, hi, hyi⟩ := mod3 y
        have HPU : Hid (putB (tri 200 200 200 i) (ls i) ((j : Int), false, 0) = (0, ls i ++ [((j : Int), false, 0)])) := Lib.hid (by rw [tri_same]; exact HO.out.puts hi (c := 200) (by have := tot_le (ls := ls) hi; have := HT.out; omega))
        have HO2 := Lib.hid (HO.out.put hi (by rw [hy]; exact hyi))
        have HP : Hid (1 + y % 3 = (i : Int) + 1) := Lib.hid (by omega)
        have hlt' : (j : Int) < (len : Int) := by omega
        have HT2 : Hid (tot (upd ls i (ls i ++ [((j : Int), false, 0)])) = j + 1) := Lib.hid (by have a := tot_upd ls hi (ls i ++ [((j : Int), false, 0)]); have b := HT.out; simp only [List.length_append, List.length_singleton] at a; omega)
        clear hy hyi rz HO HT
        go_wp2_with fail
        refine (qput_p HQ.out hi HP.out (j : Int) false 0 HPU.out).mono ?_
        rintro e w3 ⟨rfl, Q3, F3⟩
        have HQ3 := Lib.hid Q3
        have HF3 := Lib.hid (HF.out.step F3 HUP.out)
        clear Q3 F3 HQ HF
        go_wp2
        go_roundw
        case rel => exact ⟨j + 1, _, by go_num, by omega, HO2.out, HT2.out, HQ3.out, HF3.out⟩
        case measure => simp [intOf] <;> omega
      · have h3 : ¬ (j : Int) < (len : Int) := by omega
        obtain rfl : j = len := by omega
        have HRL : Hid (BoT W q qs zs j (.int .u8 9) (.int .i64 (-1)) (.int .i64 0) wr) := Lib.hid ⟨0, 9, -1, ls, rfl, rfl, rfl, Nat.zero_le _, by omega, by omega, by omega, by omega, HO.out, by rw [HT.out]; rfl, fun i hi _ => ⟨by omega, fun h => by omega⟩, HQ.out, HF.out⟩
        clear HQ HF HO HT
        go_wp2_with fail
        go_loopw [5, 6, 7] (fun la ru i wr => BoT W q qs zs j la ru i wr) (fun _ _ i _ => j - (intOf i).toNat)
        case atStart => exact HRL.out
        case round =>
          clear HRL
          obtain ⟨k, last, rule, ms, rfl, rfl, rfl, hk, ha0, ha1, hu0, hu1, ho, ht, hlr, Q, F⟩ := hrel
          have HQ := Lib.hid Q
          have HF := Lib.hid F
          have HO := Lib.hid ho
          have HT := Lib.hid ht
          have HLR := Lib.hid hlr
          clear Q F ho ht hlr
          by_cases hlt : k < j
          · have hlt' : (k : Int) < (j : Int) := by omega
            go_wp2_with fail
            refine (qtake HQ.out).mono fun e w3 hh => ?_
            rcases hh with ⟨h1, -, -⟩ | ⟨i, x0, x1, x2, l, hi, hl, hab, rfl, Q3, F3⟩
            · exact absurd HT.out (by unfold tot; rw [h1 0 (by omega), h1 1 (by omega), h1 2 (by omega)]; simp; omega)
            · obtain ⟨r, hrn, hx, hz⟩ := HO.out.of_ i hi (x0, x1, x2) (by rw [hl]; exact List.mem_cons_self)
              cases hx
              have HQ3 := Lib.hid Q3
              have HF3 := Lib.hid (HF.out.step F3 HUP.out)
              have HO3 := Lib.hid (HO.out.tail hi hl)
              have HLR3 := Lib.hid (LastR.next (last := last) (rule := rule) HO.out hi hl hab)
              have HT3 : Hid (tot (upd ms i l) + (k + 1) = j) := Lib.hid (by have a := tot_upd ms hi l; rw [hl] at a; have b := HT.out; simp only [List.length_cons] at a; omega)
              have hlast := HLR.out i hi (by rw [hl]; simp)
              have hrul : (i : Int) + 1 = last → rule ≤ (r : Int) := fun h => hlast.2 h _ (by rw [hl]; exact List.mem_cons_self)
              have rz := HRD.out.fr HF3.out (fun _ _ x => x)
              obtain ⟨zb, zo, rfl, hzb⟩ := rz.plain (by omega)
              have hwf := bounds_u8 (HW.out (zs.getD r EBy.z) (by have := HL.out; simp [List.getD_eq_getElem?_getD, this, hrn]))
              have HRZ := Lib.hid rz
              have HHL := Lib.hid hl
              clear Q3 F3 HQ HF HO HLR HT hab hl rz
              have Bz6 : (w3.alloc (.cells #[.int .i64 0, .bool false, .int .i64 0] 30)).heap[w3.heap.size]? = some (.cells #[.int .i64 0, .bool false, .int .i64 0] 30 (0, 0)) := alloc_is _ rfl
              have Fz6 := (Fr.refl (fun _ => False) w3).alloc (.cells #[.int .i64 0, .bool false, .int .i64 0] 30)
              generalize hwm6 : w3.alloc (.cells #[.int .i64 0, .bool false, .int .i64 0] 30) = wm6 at Bz6 Fz6
              obtain ⟨c6_0, c6_1, c6_2⟩ := cells3 Bz6
              have z6_0 := frozen_of Bz6 0
              have z6_1 := frozen_of Bz6 1
              have z6_2 := frozen_of Bz6 2
              have B6 := put3y (y0 := .int .i64 (r : Int)) (y1 := .bool false) (y2 := .int .i64 0) Bz6
              have Fo6 := (Fr.refl (fun i => i = w3.heap.size) wm6).put3 (b := w3.heap.size) (fun _ => rfl) (.int .i64 (r : Int)) (.bool false) (.int .i64 0)
              generalize hwo6 : (((wm6.setCell ⟨w3.heap.size, 0, none⟩ (.int .i64 (r : Int))).setCell ⟨w3.heap.size, 1, none⟩ (.bool false)).setCell ⟨w3.heap.size, 2, none⟩ (.int .i64 0)) = wo6 at B6 Fo6
              have FF6 := Fz6.trans Fo6 (fun i hi (h : i = w3.heap.size) => by omega)
              obtain ⟨d6_0, d6_1, d6_2⟩ := cells3 B6
              have l0 := (HRZ.out.fr FF6 (fun _ _ x => x)).by_ hrn
              have HQ6 := Lib.hid (HQ3.out.calm FF6)
              have HF6 := Lib.hid (HF3.out.step FF6 nop)
              have HB6 := Lib.hid B6
              have HLT := Lib.hid (lt_of B6)
              obtain ⟨y, hy⟩ : ∃ y, zs.getD r EBy.z = y := ⟨_, rfl⟩
              rw [hy] at hwf l0 hz
              have hr' : (r : Int) < (j : Int) := by omega
              have hj1 : ((j : Int) == 0) = false := by simp; omega
              have hj2 : (r : Int) % (j : Int) = (r : Int) := Int.emod_eq_of_lt (by omega) hr'
              have hj3 : Int.tmod (r : Int) (j : Int) = (r : Int) := by rw [Int.tmod_eq_emod_of_nonneg (by omega)]; exact hj2
              have hE : 1 + y % 3 = (i : Int) + 1 := by omega
              have hle : decide (last < (i : Int) + 1) = false := by simp; omega
              have hN : ((i : Int) + 1 != 1 + (i : Int)) = false := by simp [Int.add_comm]
              clear hy FF6 B6
              by_cases hq : (i : Int) + 1 = last
              · have hru := hrul hq
                have hru' : decide ((r : Int) < rule) = false := by simp; omega
                have hq' : ((i : Int) + 1 == last) = true := by simp [hq]
                clear hrul hlast
                clear hq hru
                go_wp2_with fail
                go_quiet (fail)
                have HQ7 := Lib.hid (HQ6.out.calm ((Fr.refl (fun _ => False) wo6).drewN nq))
                have HF7 := Lib.hid (HF6.out.drewN nq)
                go_wp2
                go_roundw
                case rel => exact ⟨k + 1, _, _, _, by first | rfl | (congr 1), rfl, by go_num, by omega, by omega, by omega, by omega, by omega, HO3.out, HT3.out, HLR3.out, HQ7.out, HF7.out⟩
                case measure => simp [intOf] <;> omega
              · have hq' : ((i : Int) + 1 == last) = false := by simp [hq]
                clear hrul hlast hq
                go_wp2_with fail
                go_quiet (fail)
                have HQ7 := Lib.hid (HQ6.out.calm ((Fr.refl (fun _ => False) wo6).drewN nq))
                have HF7 := Lib.hid (HF6.out.drewN nq)
                go_wp2
                go_roundw
                case rel => exact ⟨k + 1, _, _, _, by first | rfl | (congr 1), rfl, by go_num, by omega, by omega, by omega, by omega, by omega, HO3.out, HT3.out, HLR3.out, HQ7.out, HF7.out⟩
                case measure => simp [intOf] <;> omega
          · have h4 : ¬ (k : Int) < (j : Int) := by omega
            have h0 : tot ms = 0 := by have := HT.out; omega
            have HLN := Lib.hid (qlen HQ.out (fun i hi => by have := tot_le (ls := ms) hi; omega))
            have HT0 : Hid ((ms 0).length + (ms 1).length + (ms 2).length = 0) := Lib.hid h0
            rw [HT0.out] at HLN
            clear h0
            go_wp2_with fail
            refine HLN.out.mono ?_
            rintro e w5 ⟨rfl, rfl⟩
            go_wp2
            go_ret
            exact ⟨rfl, HF.out.below⟩
  · have e0 : (100 : Int) < (len : Int) := by omega
    go_enter Try.func3, Try.ntmps3
    go_wp2_with fail
    refine (first_any _).mono ?_
    rintro e w1 ⟨rfl, F1⟩
    go_wp2_with fail
    refine (first_any _).mono ?_
    rintro e w2 ⟨rfl, F2⟩
    have HF := Lib.hid (F1.step F2 nop)
    go_wp2
    go_ret
    exact ⟨rfl, HF.out.below⟩

end Go.Proofs.Ytcpapadkdeajaaa
