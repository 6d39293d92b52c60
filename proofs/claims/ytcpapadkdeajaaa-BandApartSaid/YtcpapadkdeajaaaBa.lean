/- Ba. -/
import Derived.Test.YtcpapadkdeajaaaChecked
import Derived.WalkKit
import Derived.Laws.IdiomCopy
import Derived.Deep.QuietTactic
import Derived.BigQuiet
import Derived.Lib.Hide
import Derived.OpenShut
import Derived.StillTailTactics
import Derived.Deep.RegionWith
import Derived.Deep.RegionLaw
import Derived.Deep.Slices
import Derived.Deep.RegionHeld3
import Derived.OwnWalk
import Derived.Test.YtcpapadkdeajaaaBase
import Derived.Test.YtcpapadkdeajaaaCalm
import Derived.Test.YtcpapadkdeajaaaCalmT
import Derived.Test.YtcpapadkdeajaaaCel
import Derived.Test.YtcpapadkdeajaaaApp
import Derived.Test.YtcpapadkdeajaaaRE
import Derived.Test.YtcpapadkdeajaaaREB
import Derived.Test.YtcpapadkdeajaaaREC
import Derived.Test.YtcpapadkdeajaaaREA
import Derived.Test.YtcpapadkdeajaaaBq
import Derived.Test.YtcpapadkdeajaaaBp
import Derived.Test.YtcpapadkdeajaaaBx
import Derived.Test.YtcpapadkdeajaaaBn
namespace Go.Proofs.Ytcpapadkdeajaaa
open Go.RowKit
set_option linter.unusedVariables false
set_option linter.unusedSimpArgs false

/-! ### BandApart -/
/-- Behind j puts, round the bands. -/
structure Rnd (cs : Nat → Nat) (j : Nat) (ls : Nat → List Ev) : Prop where
  lt : ∀ i, i < 3 → ∀ y, y ∈ ls i → y.1 < (j : Int)
  n : ∀ i, i < 3 → (ls i).length = min (cs i) ((j + 2 - i) / 3)
theorem Rnd.nil (cs : Nat → Nat) : Rnd cs 0 (fun _ => []) := ⟨fun i _ y hy => (by cases hy), fun i hi => by simp; omega⟩
theorem Rnd.put {cs : Nat → Nat} {j : Nat} {ls : Nat → List Ev} (h : Rnd cs j ls) {i : Nat} (hi : i < 3) (hj : j % 3 = i) : Rnd cs (j + 1) (upd ls i (putB (cs i) (ls i) ((j : Int), false, 0)).2) := by
  have hmiss : fi (j : Int) (ls i) = (ls i).length := fi_miss fun m hm e => by
    rw [List.getD_eq_getElem?_getD, List.getElem?_eq_getElem hm] at e
    have h1 := h.lt i hi _ (List.getElem_mem hm)
    have h2 : (ls i)[m].1 = (j : Int) := e
    omega
  have hn := h.n i hi
  have hp : putB (cs i) (ls i) ((j : Int), false, 0) = if (ls i).length < cs i then (0, ls i ++ [((j : Int), false, 0)]) else (6, ls i) := by
    unfold putB
    rw [if_neg (by show ¬ fi (j : Int) (ls i) < _; rw [hmiss]; omega)]
  rw [hp]
  refine ⟨fun k hk y hy => ?_, fun k hk => ?_⟩
  · by_cases e : k = i
    · subst e
      rw [upd_same] at hy
      split at hy
      · rcases List.mem_append.1 hy with h1 | h1
        · have := h.lt k hk y h1; omega
        · rw [List.mem_singleton.1 h1]; simp only; omega
      · have := h.lt k hk y hy; omega
    · rw [upd_ne _ e] at hy; have := h.lt k hk y hy; omega
  · by_cases e : k = i
    · subst e
      rw [upd_same]
      split
      · simp only [List.length_append, List.length_singleton]; omega
      · simp only; omega
    · rw [upd_ne _ e, h.n k hk]
      have : (j + 1 + 2 - k) / 3 = (j + 2 - k) / 3 := by omega
      rw [this]
def BaR (W : World) (q : Nat) (qs : Nat → Nat × Nat) (cs : Nat → Nat) (v : Value) (wr : World) : Prop :=
  ∃ (j : Nat) (ls : Nat → List Ev), v = .int .i64 j ∧ j ≤ 30 ∧ Rnd cs j ls ∧ Qu wr q qs cs ls ∧ Fr (fun _ => False) W wr
theorem Band_p {w : World} {q : Nat} {qs : Nat → Nat × Nat} {cs : Nat → Nat} {ls : Nat → List Ev} (h : Qu w q qs cs ls) {i : Nat} (hi : i < 3) {p : Int} (hp : p = (i : Int) + 1) {n : Nat} (hn : (ls i).length = n) :
    Calls Try.prog 16 #[.pointer (some ⟨q, 0, none⟩), .int .u8 p] w fun e w' => ∃ A c, e = .returned (.slice A n c) ∧ Fr (fun _ => False) w w' := by
  subst hp
  refine (Band_yes h hi).mono ?_
  rintro e w' ⟨v, rfl, O, F⟩
  obtain ⟨A, c', rfl, r, _⟩ := O.reads
  exact ⟨A, c', by rw [hn], F⟩
set_option maxRecDepth 100000 in
set_option maxHeartbeats 8000000 in
theorem BandApart_walk (r0 r1 r2 p : Int) (W : World) (w0 : (Lit.int .u8 r0).wf = true) (w1 : (Lit.int .u8 r1).wf = true) (w2 : (Lit.int .u8 r2).wf = true) (w3 : (Lit.int .u8 p).wf = true) :
    Calls Try.prog 7 #[.agg #[.int .u8 r0, .int .u8 r1, .int .u8 r2], .int .u8 p] W fun e w' => e = .returned (.bool true) ∧ Below W.heap.size W w' := by
  have h0 := bounds_u8 w0
  have h1 := bounds_u8 w1
  have h2 := bounds_u8 w2
  have hp := bounds_u8 w3
  clear w0 w1 w2 w3
  obtain ⟨a, ha⟩ : ∃ a : Nat, r0 % 9 = (a : Int) := ⟨(r0 % 9).toNat, by omega⟩
  obtain ⟨b, hb⟩ : ∃ a : Nat, r1 % 9 = (a : Int) := ⟨(r1 % 9).toNat, by omega⟩
  obtain ⟨c, hc⟩ : ∃ a : Nat, r2 % 9 = (a : Int) := ⟨(r2 % 9).toNat, by omega⟩
  have ha8 : a ≤ 8 := by omega
  have hb8 : b ≤ 8 := by omega
  have hc8 : c ≤ 8 := by omega
  have g0 : IntKind.i64.wrap (r0.tmod 9) = (a : Int) := by rw [Int.tmod_eq_emod_of_nonneg h0.1, ha]; exact IntWalk.i64_in _ (by omega)
  have g1 : IntKind.i64.wrap (r1.tmod 9) = (b : Int) := by rw [Int.tmod_eq_emod_of_nonneg h1.1, hb]; exact IntWalk.i64_in _ (by omega)
  have g2 : IntKind.i64.wrap (r2.tmod 9) = (c : Int) := by rw [Int.tmod_eq_emod_of_nonneg h2.1, hc]; exact IntWalk.i64_in _ (by omega)
  have HA_ := Lib.hid ha
  have HB_ := Lib.hid hb
  have HC_ := Lib.hid hc
  clear ha hb hc
  have B1 := alloc_is (w := W) (n := W.heap.size) (.cells #[.int .u8 r0, .int .u8 r1, .int .u8 r2] 53) rfl
  have F1 := (Fr.refl (fun _ => False) W).alloc (.cells #[.int .u8 r0, .int .u8 r1, .int .u8 r2] 53)
  generalize hw1 : W.alloc (.cells #[.int .u8 r0, .int .u8 r1, .int .u8 r2] 53) = w1 at B1 F1
  have HB1 := Lib.hid B1
  have HF1 := Lib.hid F1
  have G0 := Lib.hid g0
  have G1 := Lib.hid g1
  have G2 := Lib.hid g2
  clear B1 F1 g0 g1 g2
  go_enter Try.func7, Try.ntmps7
  go_wp2_with fail
  refine (first_any _).mono ?_
  rintro e w2 ⟨rfl, F2⟩
  have HF2 := Lib.hid (HF1.out.step F2 nop)
  obtain ⟨c0, c1, c2⟩ := cells3 (F2.at_ HB1.out (fun x => x))
  clear F2 HF1 HB1 hw1
  go_wp2_with fail
  go_quiet (fail)
  rw [HA_.out, HB_.out, HC_.out]
  clear c0 c1 c2
  have HF3 := Lib.hid (HF2.out.drewN nq)
  generalize w2.drewN nq = w3 at HF3 ⊢
  go_wp2_with fail
  refine (qnew _ _ _ _).mono ?_
  rintro e w4 ⟨q, qs, rfl, Q4, F4, hup0⟩
  rw [room_nat (n := a) (by omega), room_nat (n := b) (by omega), room_nat (n := c) (by omega)] at Q4
  have HUP : Hid (∀ k, inQ q qs k → W.heap.size ≤ k) := Lib.hid (fun k hk => Nat.le_trans HF3.out.size (hup0 k hk))
  have HRL : Hid (BaR W q qs (tri a b c) (.int .i64 0) w4) := Lib.hid ⟨0, _, rfl, Nat.zero_le _, Rnd.nil _, Q4, HF3.out.step F4 nop⟩
  clear Q4 F4 hup0
  go_wp2_with fail
  go_loopw [9] (fun v wr => BaR W q qs (tri a b c) v wr) (fun v _ => 30 - (intOf v).toNat)
  case atStart => exact HRL.out
  case round =>
    clear HRL
    obtain ⟨j, ls, rfl, hj, hR, Q, F⟩ := hrel
    have HQ := Lib.hid Q
    have HF := Lib.hid F
    have HR := Lib.hid hR
    clear Q F hR
    by_cases hlt : j < 30
    · have hlt' : (j : Int) < 30 := by omega
      obtain ⟨i, hi, hji⟩ : ∃ i : Nat, i < 3 ∧ j % 3 = i := ⟨j % 3, by omega, rfl⟩
      have hE : (j : Int) % 3 = (i : Int) := by omega
      have hE2 : Int.tmod (j : Int) 3 = (i : Int) := by rw [Int.tmod_eq_emod_of_nonneg (by omega)]; exact hE
      have HR2 := Lib.hid (HR.out.put hi hji)
      obtain ⟨rr, hrr⟩ : ∃ rr, putB (tri a b c i) (ls i) ((j : Int), false, 0) = rr := ⟨_, rfl⟩
      rw [hrr] at HR2
      have HRR := Lib.hid hrr
      have HP : Hid ((1 : Int) + (i : Int) = (i : Int) + 1) := Lib.hid (by omega)
      have HJI := Lib.hid hji
      clear hrr hji
      go_wp2_with fail
      try rw [HP.out]
      refine (qput HQ.out hi (j : Int) false 0 HRR.out).mono ?_
      rintro e w5 ⟨rfl, Q5, F5⟩
      have HQ5 := Lib.hid Q5
      have HF5 := Lib.hid (HF.out.step F5 HUP.out)
      clear Q5 F5 HQ HF
      go_wp2
      go_roundw
      case rel => exact ⟨j + 1, _, by go_num, by omega, HR2.out, HQ5.out, HF5.out⟩
      case measure => simp [intOf] <;> omega
    · have h3 : ¬ (j : Int) < 30 := by omega
      obtain rfl : j = 30 := by omega
      have n0 : (ls 0).length = a := by rw [HR.out.n 0 (by omega)]; simp [tri]; omega
      have n1 : (ls 1).length = b := by rw [HR.out.n 1 (by omega)]; simp [tri]; omega
      have n2 : (ls 2).length = c := by rw [HR.out.n 2 (by omega)]; simp [tri]; omega
      have HN0 := Lib.hid n0
      have HN1 := Lib.hid n1
      have HN2 := Lib.hid n2
      have HLL : Hid (∀ i, i < 3 → (ls i).length ≤ 1024) := Lib.hid (fun i hi => by rcases (by omega : i = 0 ∨ i = 1 ∨ i = 2) with rfl | rfl | rfl <;> omega)
      clear n0 n1 n2 hlt
      have hab : (a : Int) + (b : Int) + (c : Int) = ((a + b + c : Nat) : Int) := by push_cast; rfl
      have HAB := Lib.hid hab
      clear hab
      go_wp2_with fail
      refine (Band_p HQ.out (i := 0) (by omega) (by rfl) HN0.out).mono ?_
      rintro e w5 ⟨A5, k5, rfl, F5⟩
      have HQ5 := Lib.hid (HQ.out.calm F5)
      have HF5 := Lib.hid (HF.out.step F5 nop)
      clear F5 HQ HF
      go_wp2_with fail
      refine (Band_p HQ5.out (i := 1) (by omega) (by rfl) HN1.out).mono ?_
      rintro e w6 ⟨A6, k6, rfl, F6⟩
      have HQ6 := Lib.hid (HQ5.out.calm F6)
      have HF6 := Lib.hid (HF5.out.step F6 nop)
      clear F6 HQ5 HF5
      go_wp2_with fail
      refine (Band_p HQ6.out (i := 2) (by omega) (by rfl) HN2.out).mono ?_
      rintro e w7 ⟨A7, k7, rfl, F7⟩
      have HQ7 := Lib.hid (HQ6.out.calm F7)
      have HF7 := Lib.hid (HF6.out.step F7 nop)
      clear F7 HQ6 HF6
      have HLN := Lib.hid (qlen HQ7.out HLL.out)
      rw [HN0.out, HN1.out, HN2.out] at HLN
      rw [← HAB.out] at HLN
      go_wp2_with fail
      refine HLN.out.mono ?_
      rintro e w8 ⟨rfl, rfl⟩
      by_cases p1 : 1 ≤ p
      · by_cases p3 : p ≤ 3
        · go_wp2
          go_ret
          exact ⟨rfl, HF7.out.below⟩
        · have p3' : 3 < p := by omega
          have HP : Hid (p < 1 ∨ 3 < p) := Lib.hid (.inr p3')
          go_wp2_with fail
          refine (Band_no _ q p HP.out).mono ?_
          rintro e w9 ⟨rfl, rfl⟩
          go_wp2_with fail
          refine (qput_no HQ7.out HP.out 0 false 0).mono ?_
          rintro e w9 ⟨rfl, F9⟩
          have HF9 := Lib.hid (HF7.out.step F9 nop)
          clear F9
          go_wp2
          go_ret
          exact ⟨rfl, HF9.out.below⟩
      · have HP : Hid (p < 1 ∨ 3 < p) := Lib.hid (.inl (by omega))
        have p1' : p < 1 := by omega
        go_wp2_with fail
        refine (Band_no _ q p HP.out).mono ?_
        rintro e w9 ⟨rfl, rfl⟩
        go_wp2_with fail
        refine (qput_no HQ7.out HP.out 0 false 0).mono ?_
        rintro e w9 ⟨rfl, F9⟩
        have HF9 := Lib.hid (HF7.out.step F9 nop)
        clear F9
        go_wp2
        go_ret
        exact ⟨rfl, HF9.out.below⟩

end Go.Proofs.Ytcpapadkdeajaaa
