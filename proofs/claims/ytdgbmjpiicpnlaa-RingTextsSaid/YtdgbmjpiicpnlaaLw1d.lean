/- The walk of RingTexts. -/
import Derived.Test.YtdgbmjpiicpnlaaChecked
import Derived.WalkKit
import Derived.Laws.IdiomCopy
import Derived.Deep.QuietTactic
import Derived.BigQuiet
import Derived.Lib.Hide
import Derived.Deep.RegionWith
import Derived.OpenShut
import Derived.Test.YtdgbmjpiicpnlaaRowX
import Derived.Test.YtdgbmjpiicpnlaaBase
import Derived.Test.YtdgbmjpiicpnlaaRInt
import Derived.Test.YtdgbmjpiicpnlaaRIntB
import Derived.Test.YtdgbmjpiicpnlaaRIntC
import Derived.Test.YtdgbmjpiicpnlaaRIntA
import Derived.Test.YtdgbmjpiicpnlaaRStr
import Derived.Test.YtdgbmjpiicpnlaaRStrB
import Derived.Test.YtdgbmjpiicpnlaaRStrC
import Derived.Test.YtdgbmjpiicpnlaaRStrA
import Derived.Test.YtdgbmjpiicpnlaaLw1
import Derived.Test.YtdgbmjpiicpnlaaLw1b
namespace Go.Proofs.Ytdgbmjpiicpnlaa
open Go.RowKit
set_option linter.unusedVariables false
set_option linter.unusedSimpArgs false

/-! ### RingTexts -/
def TxtRel1 (W : World) (b a c n : Nat) (zs : List ByteArray) (i : Value) (wr : World) : Prop :=
  ∃ k : Nat, k ≤ n ∧ i = .int .i64 k ∧ RStr.Rg wr b a c (zs.take (min k c)) ∧ Fr (fun _ => False) W wr
def TxtRel2 (w : World) (d : Nat) (i : Value) (wr : World) : Prop :=
  ∃ k : Nat, k ≤ d ∧ i = .int .i64 k ∧ ∃ m, wr = w.drewN m

theorem Reads.str {w : World} {ad : Addr} {n : Nat} {xs : List ByteArray} (h : Reads RStr.E w (some ad) n xs) {k : Nat} (hk : k < n) : w.cell? (ad.add k) = some (.string (xs.getD k ByteArray.empty)) := by
  rw [h.cell1 rfl hk]; rfl
theorem take_more' {zs : List ByteArray} {k : Nat} (h : k < zs.length) : zs.take k ++ [zs.getD k ByteArray.empty] = zs.take (k + 1) := by
  rw [List.take_succ_eq_append_getElem h]; simp [List.getD_eq_getElem?_getD, h]

set_option maxRecDepth 100000 in
set_option maxHeartbeats 2000000 in
theorem RingTexts_walk (A : Option Addr) (n cap : Nat) (zs : List ByteArray) (n0 : Int) (W : World) (hr : Reads RStr.E W A n zs) (hw : ∀ y, y ∈ zs → y.size ≤ maxLen) (hcap : n ≤ cap ∧ cap ≤ maxLen) (w0 : (Lit.int .u8 n0).wf = true) :
    Calls Try.prog 5 #[.slice A n cap, .int .u8 n0] W fun e w' => e = .returned (.bool true) ∧ Below W.heap.size W w' := by
  clear hw
  have hn0 := bounds_u8 w0
  clear w0 hcap
  by_cases hn : n ≤ 60
  · have e0 : ¬ (60 : Int) < (n : Int) := by omega
    have hlen := hr.1
    obtain ⟨c, hc, hc19⟩ : ∃ c : Nat, n0 % 20 = (c : Int) ∧ c ≤ 19 := ⟨(n0 % 20).toNat, by omega, by omega⟩
    have HC := Lib.hid hc
    clear hc
    go_enter Try.func5, Try.ntmps5
    go_wp2_with fail
    refine (fits_any _).mono ?_
    rintro e w0 ⟨rfl, F0⟩
    go_wp2_with fail
    refine (RStr.New w0 (n0 % 20)).mono ?_
    rintro e w1 ⟨b, a, rfl, R1, F1, hb, ha⟩
    rw [show RStr.room (n0 % 20) = c from by have hc := HC.out; unfold RStr.room; omega] at R1
    have hb' : W.heap.size ≤ b := Nat.le_trans F0.size hb
    have ha' : W.heap.size ≤ a := Nat.le_trans F0.size ha
    have F1' := F0.step F1 nop
    clear F0 F1 hb ha
    go_wp2_with fail
    go_loopw [6] (fun i wr => TxtRel1 W b a c n zs i wr) (fun i _ => n - (intOf i).toNat)
    case atStart => exact ⟨0, Nat.zero_le _, rfl, by simpa using R1, F1'⟩
    case round =>
      clear R1 F1'
      obtain ⟨k, hk, rfl, Rk, Fk⟩ := hrel
      by_cases hlt : k < n
      · obtain ⟨ad, rfl, _⟩ := hr.some_of (by omega)
        have cx := (hr.fr Fk (fun _ _ x => x)).str hlt
        have hlt' : (k : Int) < (n : Int) := by omega
        obtain ⟨x, hxk⟩ : ∃ x, x = zs.getD k ByteArray.empty := ⟨_, rfl⟩
        rw [← hxk] at cx
        have HX := Lib.hid hxk
        obtain ⟨ys, hys⟩ : ∃ ys, ys = zs.take (min k c) := ⟨_, rfl⟩
        have hyl : ys.length = min k c := by rw [hys, List.length_take]; omega
        rw [← hys] at Rk
        have HY := Lib.hid hys
        clear hxk hys
        by_cases hkc : k < c
        · have e1 : ((ys.length : Int) == (c : Int)) = false := by rw [hyl]; simp; omega
          have hy2 : ys.length < c := by omega
          have HL := Lib.hid hyl
          clear hyl
          go_wp2_with fail
          refine (RStr.Len Rk).mono ?_
          rintro e w2 ⟨rfl, rfl⟩
          go_wp2_with fail
          refine (RStr.Cap Rk).mono ?_
          rintro e w2 ⟨rfl, rfl⟩
          go_wp2_with fail
          refine (RStr.Push_yes Rk x hy2).mono ?_
          rintro e w2 ⟨rfl, R2, F2⟩
          have F2' := Fk.step F2 (two hb' ha')
          rw [HY.out, HX.out, show min k c = k from by omega, take_more' (by omega), show k + 1 = min (k + 1) c from by omega] at R2
          clear Rk Fk F2 cx e1 HL
          go_wp2
          go_roundw
          case rel => exact ⟨k + 1, by omega, by simp, R2, F2'⟩
          case measure => simp [intOf]; omega
        · have e1 : ((ys.length : Int) == (c : Int)) = true := by rw [hyl]; simp; omega
          have hy2 : ys.length = c := by omega
          have HL := Lib.hid hy2
          clear hyl hy2
          go_wp2_with fail
          refine (RStr.Len Rk).mono ?_
          rintro e w2 ⟨rfl, rfl⟩
          go_wp2_with fail
          refine (RStr.Cap Rk).mono ?_
          rintro e w2 ⟨rfl, rfl⟩
          go_wp2_with fail
          refine (RStr.Push_no Rk x HL.out).mono ?_
          rintro e w2 ⟨rfl, F2⟩
          have F2' := Fk.step F2 nop
          have R2 := Rk.fr F2 (fun x => x) (fun x => x)
          rw [HY.out, show min k c = min (k + 1) c from by omega] at R2
          clear Rk Fk F2 cx e1 HL
          go_wp2
          go_roundw
          case rel => exact ⟨k + 1, by omega, by simp, R2, F2'⟩
          case measure => simp [intOf]; omega
      · obtain rfl : n = k := by omega
        obtain ⟨ys, hys⟩ : ∃ ys, ys = zs.take (min n c) := ⟨_, rfl⟩
        obtain ⟨d, hd⟩ : ∃ d, d = min n c := ⟨_, rfl⟩
        have hyl : ys.length = d := by rw [hys, List.length_take]; omega
        rw [← hys] at Rk
        have HY := Lib.hid hys
        have HYL := Lib.hid hyl
        have HD := Lib.hid hd
        have hdn : d ≤ n := by omega
        have hdc : d ≤ c := by omega
        clear hys hyl hd
        go_wp2_with fail
        refine (RStr.All Rk).mono ?_
        rintro e w2 ⟨v, rfl, O2, F2⟩
        obtain ⟨A2, c2, rfl, Q2, _⟩ := O2.reads
        rw [HYL.out] at Q2 ⊢
        have F2' := Fk.step F2 nop
        clear Rk Fk F2 O2
        go_wp2_with fail
        go_loopw [9] (fun i wr => TxtRel2 w2 d i wr) (fun i _ => d - (intOf i).toNat)
        case atStart => exact ⟨0, Nat.zero_le _, rfl, 0, rfl⟩
        case round =>
          obtain ⟨k, hk, rfl, mm, rfl⟩ := hrel
          by_cases hlt : k < d
          · obtain ⟨ad, rfl, _⟩ := hr.some_of (by omega)
            obtain ⟨bd, rfl, _⟩ := Q2.some_of (by omega)
            have cx := (hr.fr F2' (fun _ _ x => x)).str (show k < n by omega)
            have cy := Q2.str hlt
            have hlt' : (k : Int) < (d : Int) := by omega
            have hltn : (k : Int) < (n : Int) := by omega
            rw [show ys.getD k ByteArray.empty = zs.getD k ByteArray.empty from by rw [HY.out, List.getD_eq_getElem?_getD, List.getElem?_take, if_pos (by have := HD.out; omega), List.getD_eq_getElem?_getD]] at cy
            generalize zs.getD k ByteArray.empty = x at cx cy
            go_wp2
            go_quiet (fail)
            go_wp2
            go_roundw
            case rel => exact ⟨k + 1, by omega, by simp, _, rfl⟩
            case measure => simp [intOf]; omega
          · obtain rfl : d = k := by omega
            have F3 := (F2'.drewN mm).below
            have hdc' : (d : Int) ≤ n0 % 20 := by have := HC.out; omega
            by_cases hnc : n ≤ c
            · obtain rfl : d = n := by have := HD.out; omega
              clear HD
              go_wp2
              go_ret
              exact ⟨rfl, F3⟩
            · have e3 : ((d : Int) == (n : Int)) = false := beq_eq_false_iff_ne.2 (by have := HD.out; omega)
              have e4 : ((d : Int) == n0 % 20) = true := beq_iff_eq.2 (by have := HD.out; have := HC.out; omega)
              clear HD
              go_wp2
              go_ret
              exact ⟨rfl, F3⟩
  · have e0 : (60 : Int) < (n : Int) := by omega
    go_enter Try.func5, Try.ntmps5
    go_wp2_with fail
    refine (fits_any _).mono ?_
    rintro e w0 ⟨rfl, F0⟩
    go_wp2_with fail
    refine (fits_any _).mono ?_
    rintro e w1 ⟨rfl, F1⟩
    go_wp2
    go_ret
    exact ⟨rfl, (F0.step F1 nop).below⟩

end Go.Proofs.Ytdgbmjpiicpnlaa
