/- The walk of RingNewest. -/
import Derived.Test.YtdgbmjpiicpnlaaChecked
import Derived.WalkKit
import Derived.Laws.IdiomCopy
import Derived.Deep.QuietTactic
import Derived.BigQuiet
import Derived.Lib.Hide
import Derived.Deep.RegionWith
import Derived.OpenShut
import Derived.Test.YtdgbmjpiicpnlaaRowX
import Derived.Test.YtdgbmjpiicpnlaaBase
import Derived.Test.YtdgbmjpiicpnlaaRInt
import Derived.Test.YtdgbmjpiicpnlaaRIntB
import Derived.Test.YtdgbmjpiicpnlaaRIntC
import Derived.Test.YtdgbmjpiicpnlaaRIntA
import Derived.Test.YtdgbmjpiicpnlaaLw1
import Derived.Test.YtdgbmjpiicpnlaaLw1b
namespace Go.Proofs.Ytdgbmjpiicpnlaa
open Go.RowKit
set_option linter.unusedVariables false
set_option linter.unusedSimpArgs false

/-! ### RingNewest -/
/-- The newest c of the first k. -/
def newest (c k : Nat) (zs : List Int) : List Int := (zs.take k).drop (k - c)

theorem newest_length {c k : Nat} {zs : List Int} (h : k ≤ zs.length) : (newest c k zs).length = min c k := by
  unfold newest; rw [List.length_drop, List.length_take]; omega
theorem newest_room {c k : Nat} {zs : List Int} (h : k < zs.length) (hc : k < c) : newest c k zs ++ [zs.getD k 0] = newest c (k + 1) zs := by
  unfold newest
  rw [show k - c = 0 from by omega, show k + 1 - c = 0 from by omega, List.drop_zero, List.drop_zero, take_more h]
theorem newest_full {c k : Nat} {zs : List Int} (h : k < zs.length) (hc : c ≤ k) (h0 : 0 < c) : ∃ y l, newest c k zs = y :: l ∧ l.length + 1 = c ∧ l ++ [zs.getD k 0] = newest c (k + 1) zs := by
  have hl := newest_length (c := c) (k := k) (zs := zs) (by omega)
  cases e : newest c k zs with
  | nil => rw [e] at hl; simp at hl; omega
  | cons y l =>
    refine ⟨y, l, rfl, by rw [e] at hl; simp at hl; omega, ?_⟩
    have h1 : l = (newest c k zs).tail := by rw [e]; rfl
    rw [h1]
    unfold newest
    have h2 : k - c + 1 ≤ (zs.take k).length := by rw [List.length_take]; omega
    rw [List.tail_drop, show k + 1 - c = k - c + 1 from by omega, ← take_more h, List.drop_append_of_le_length h2]
theorem newest_none {k : Nat} {zs : List Int} : newest 0 k zs = [] := by
  unfold newest
  rw [Nat.sub_zero, List.drop_of_length_le]
  rw [List.length_take]; exact Nat.min_le_left _ _

def NewRel (W : World) (b a c n : Nat) (zs : List Int) (i : Value) (wr : World) : Prop :=
  ∃ k : Nat, k ≤ n ∧ i = .int .i64 k ∧ RInt.Rg wr b a c (newest c k zs) ∧ Fr (fun _ => False) W wr

/-- Force, whatever there is: the newest stay. -/
theorem force_newest {w : World} {b a c k : Nat} {zs : List Int} (h : RInt.Rg w b a c (newest c k zs)) (hk : k < zs.length) :
    Calls Try.prog 14 #[.pointer (some ⟨b, 0, none⟩), .int .i64 (zs.getD k 0)] w fun e w' => (∃ x y, e = .returned (.tuple #[.int .i64 x, .bool y])) ∧ RInt.Rg w' b a c (newest c (k + 1) zs) ∧ Fr (fun i => i = b ∨ i = a) w w' := by
  by_cases hc : k < c
  · refine (RInt.Force_room h _ (by rw [newest_length (by omega)]; omega)).mono fun e w' ⟨he, R, F⟩ => ⟨⟨_, _, he⟩, ?_, F⟩
    rw [← newest_room hk hc]; exact R
  · by_cases h0 : c = 0
    · subst h0
      rw [newest_none] at h ⊢
      exact (RInt.Force_none h _).mono fun e w' ⟨he, F⟩ => ⟨⟨_, _, he⟩, h.fr F (fun x => x) (fun x => x), F.mono (fun _ _ x => x.elim)⟩
    · obtain ⟨y, l, e1, e2, e3⟩ := newest_full (c := c) hk (by omega) (by omega)
      rw [e1] at h
      rw [← e3]
      exact (RInt.Force_full h _ e2).mono fun e w' ⟨he, R, F⟩ => ⟨⟨_, _, he⟩, R, F⟩

theorem Reads.drop {α : Type} {E : El α} (h1 : E.sz = 1) {w : World} {A : Option Addr} {n c k : Nat} {xs : List α} (h : Reads E w A n xs) (hk : k ≤ n) (hc : n ≤ c) : Reads E w (cutA A c k 1) (n - k) (xs.drop k) := by
  unfold cutA
  refine ⟨by rw [List.length_drop, h.1], ?_⟩
  by_cases e : n - k = 0
  · exact .inl e
  · obtain ⟨ad, rfl, _⟩ := h.some_of (by omega)
    refine .inr ⟨ad.add k, by rw [if_neg (by omega), Nat.mul_one]; rfl, fun q j hq hj => ?_⟩
    have hj0 : j = 0 := by omega
    subst hj0
    have := h.cell1 h1 (k := k + q) (by omega)
    rw [Deep.add_add, h1, show k + (q * 1 + 0) = k + q from by omega, this]
    congr 2
    simp [List.getD_eq_getElem?_getD, List.getElem?_drop]

set_option maxRecDepth 100000 in
set_option maxHeartbeats 2000000 in
theorem RingNewest_walk (n0 : Int) (A : Option Addr) (n cap : Nat) (zs : List Int) (W : World) (w0 : (Lit.int .u8 n0).wf = true) (hr : Reads RInt.E W A n zs) (hw : ∀ y, y ∈ zs → (Lit.int .i64 y).wf = true) (hcap : n ≤ cap ∧ cap ≤ maxLen) :
    Calls Try.prog 4 #[.int .u8 n0, .slice A n cap] W fun e w' => e = .returned (.bool true) ∧ Below W.heap.size W w' := by
  clear hw
  have hn0 := bounds_u8 w0
  clear w0
  by_cases hn : n ≤ 200
  · have e0 : ¬ (200 : Int) < (n : Int) := by omega
    have hlen := hr.1
    obtain ⟨c, hc, hc19⟩ : ∃ c : Nat, (c : Int) = Int.tmod n0 20 ∧ c ≤ 19 := by
      refine ⟨(Int.tmod n0 20).toNat, ?_, ?_⟩ <;> (rw [Int.tmod_eq_emod_of_nonneg hn0.1]; omega)
    have e1 : n0 % 20 = (c : Int) := by rw [hc, Int.tmod_eq_emod_of_nonneg hn0.1]
    go_enter Try.func4, Try.ntmps4
    go_wp2_with fail
    refine (fits_any _).mono ?_
    rintro e w0 ⟨rfl, F0⟩
    go_wp2_with fail
    refine (RInt.New w0 (n0 % 20)).mono ?_
    rintro e w1 ⟨b, a, rfl, R1, F1, hb, ha⟩
    rw [show RInt.room (n0 % 20) = c from by unfold RInt.room; omega] at R1
    have hb' : W.heap.size ≤ b := Nat.le_trans F0.size hb
    have ha' : W.heap.size ≤ a := Nat.le_trans F0.size ha
    have F1' := F0.step F1 nop
    clear F0 F1 hb ha
    go_wp2_with fail
    go_loopw [6] (fun i wr => NewRel W b a c n zs i wr) (fun i _ => n - (intOf i).toNat)
    case atStart => exact ⟨0, Nat.zero_le _, rfl, by simpa [newest] using R1, F1'⟩
    case round =>
      clear R1 F1'
      obtain ⟨k, hk, rfl, Rk, Fk⟩ := hrel
      by_cases hlt : k < n
      · obtain ⟨ad, rfl, _⟩ := hr.some_of (by omega)
        have cx := (hr.fr Fk (fun _ _ x => x)).int hlt
        have hlt' : (k : Int) < (n : Int) := by omega
        have FC := force_newest Rk (by omega)
        obtain ⟨x, hxk⟩ : ∃ x, x = zs.getD k 0 := ⟨_, rfl⟩
        rw [← hxk] at cx FC
        have HF := Lib.hid FC
        clear hxk FC
        go_wp2_with fail
        refine HF.out.mono ?_
        rintro e w2 ⟨⟨x1, x2, rfl⟩, R2, F2⟩
        have F2' := Fk.step F2 (two hb' ha')
        clear Rk Fk F2 cx HF
        go_wp2
        go_roundw
        case rel => exact ⟨k + 1, by omega, by simp, R2, F2'⟩
        case measure => simp [intOf]; omega
      · obtain rfl : n = k := by omega
        obtain ⟨i0, hi, hz0, hz1, hz2⟩ := info_parts RInt.infoE
        have hrn := hr.fr Fk (fun _ _ x => x)
        by_cases hkc : c ≤ n
        · have e2 : decide ((n : Int) - n0 % 20 < 0) = false := decide_eq_false (by omega)
          have e3 : n0 % 20 ≤ (n : Int) := by omega
          have hcut := run_cut (P := Try.prog) 22 3 Try.underlying22 hi A n cap (n - c) ((n : Int) - n0 % 20) (by omega) (by omega)
          rw [hz1] at hcut
          have hd := hrn.drop rfl (show n - c ≤ n by omega) hcap.1
          clear hi hz0 hz1 hz2
          generalize cutA A cap (n - c) 1 = B at hcut hd
          go_wp2_with fail
          generalize (n : Int) - n0 % 20 = m at hcut e2 ⊢
          clear e1 e2 e3
          have hnew : newest c n zs = zs.drop (n - c) := by unfold newest; rw [List.take_of_length_le (by omega)]
          rw [hnew] at Rk
          have hsl : (zs.drop (n - c)).length ≤ 140737488351232 := by rw [List.length_drop]; omega
          have hsl2 : n - (n - c) ≤ 140737488351232 := by omega
          clear hnew
          generalize zs.drop (n - c) = ys at Rk hd hsl
          generalize n - (n - c) = d1 at hcut hd hsl2
          generalize cap - (n - c) = d2 at hcut
          go_region_with (first
            | (go_at_call 16; refine (RInt.All Rk.drew).mono ?_; rintro e w2 ⟨v, rfl, O2, F2⟩; obtain ⟨A2, c2, rfl, Q2, _⟩ := O2.reads)
            | (go_at_call 15; refine (Same _ _ _ _ _ _ _ _ _ Q2 ((hd.drewN 1).fr F2 (fun _ _ x => x)) hsl hsl2).mono ?_; rintro e w3 ⟨rfl, m3, rfl⟩; have F3 := Fk.drew.step F2 nop; clear Q2 F2 O2))
          have hs : sameB ys ys = true := decide_eq_true rfl
          go_wp2
          go_ret
          exact ⟨congrArg (fun x => Ending.returned (.bool x)) hs, (F3.drewN m3).below⟩
        · have e2 : decide ((n : Int) - n0 % 20 < 0) = true := decide_eq_true (by omega)
          have e3 : (n : Int) < n0 % 20 := by omega
          go_wp2_with fail
          have hnew : newest c n zs = zs := by unfold newest; rw [List.take_of_length_le (by omega), show n - c = 0 from by omega, List.drop_zero]
          rw [hnew] at Rk
          have hsl : zs.length ≤ 140737488351232 := by omega
          have hsl2 : n ≤ 140737488351232 := by omega
          have hd := hrn
          clear hnew e1 e2 e3 hlen hr hrn hi hz0 hz1 hz2
          generalize zs = ys at Rk hd hsl
          go_region_with (first
            | (go_at_call 16; refine (RInt.All Rk.drew).mono ?_; rintro e w2 ⟨v, rfl, O2, F2⟩; obtain ⟨A2, c2, rfl, Q2, _⟩ := O2.reads)
            | (go_at_call 15; refine (Same _ _ _ _ _ _ _ _ _ Q2 ((hd.drewN 1).fr F2 (fun _ _ x => x)) hsl hsl2).mono ?_; rintro e w3 ⟨rfl, m3, rfl⟩; have F3 := Fk.drew.step F2 nop; clear Q2 F2 O2))
          have hs : sameB ys ys = true := decide_eq_true rfl
          go_wp2
          go_ret
          exact ⟨congrArg (fun x => Ending.returned (.bool x)) hs, (F3.drewN m3).below⟩
  · have e0 : (200 : Int) < (n : Int) := by omega
    go_enter Try.func4, Try.ntmps4
    go_wp2_with fail
    refine (fits_any _).mono ?_
    rintro e w0 ⟨rfl, F0⟩
    go_wp2_with fail
    refine (fits_any _).mono ?_
    rintro e w1 ⟨rfl, F1⟩
    go_wp2
    go_ret
    exact ⟨rfl, (F0.step F1 nop).below⟩

end Go.Proofs.Ytdgbmjpiicpnlaa
