/- The walk of RingOrder. -/
import Derived.Test.YtdgbmjpiicpnlaaChecked
import Derived.WalkKit
import Derived.Laws.IdiomCopy
import Derived.Deep.QuietTactic
import Derived.BigQuiet
import Derived.Lib.Hide
import Derived.Test.YtdgbmjpiicpnlaaBase
import Derived.Test.YtdgbmjpiicpnlaaRInt
import Derived.Test.YtdgbmjpiicpnlaaRIntB
import Derived.Test.YtdgbmjpiicpnlaaRIntC
import Derived.Test.YtdgbmjpiicpnlaaRIntA
import Derived.Test.YtdgbmjpiicpnlaaLw1
namespace Go.Proofs.Ytdgbmjpiicpnlaa
open Go.RowKit
set_option linter.unusedVariables false
set_option linter.unusedSimpArgs false

/-! ### RingOrder -/
def OrdRel1 (W : World) (b a c : Nat) (zs : List Int) (i : Value) (wr : World) : Prop :=
  ∃ k : Nat, k ≤ c ∧ i = .int .i64 k ∧ RInt.Rg wr b a c (zs.take k) ∧ Fr (fun _ => False) W wr
def OrdRel2 (W : World) (b a c : Nat) (zs : List Int) (i : Value) (wr : World) : Prop :=
  ∃ k : Nat, k ≤ c ∧ i = .int .i64 k ∧ RInt.Rg wr b a c (zs.drop k) ∧ Fr (fun _ => False) W wr

theorem room_of {n : Nat} (h : n ≤ 1024) : RInt.room (n : Int) = n := by unfold RInt.room; omega
theorem take_more {zs : List Int} {k : Nat} (h : k < zs.length) : zs.take k ++ [zs.getD k 0] = zs.take (k + 1) := by
  rw [List.take_succ_eq_append_getElem h]; simp [List.getD_eq_getElem?_getD, h]
theorem drop_more {zs : List Int} {k : Nat} (h : k < zs.length) : zs.drop k = zs.getD k 0 :: zs.drop (k + 1) := by
  rw [List.drop_eq_getElem_cons h]; simp [List.getD_eq_getElem?_getD, h]

set_option maxRecDepth 100000 in
set_option maxHeartbeats 2000000 in
theorem RingOrder_walk (A : Option Addr) (n cap : Nat) (zs : List Int) (W : World) (hr : Reads RInt.E W A n zs) (hw : ∀ y, y ∈ zs → (Lit.int .i64 y).wf = true) :
    Calls Try.prog 3 #[.slice A n cap] W fun e w' => e = .returned (.bool true) ∧ Below W.heap.size W w' := by
  clear hw
  by_cases hn : n ≤ 200
  · have e0 : ¬ (200 : Int) < (n : Int) := by omega
    have hlen := hr.1
    go_enter Try.func3, Try.ntmps3
    go_wp2_with fail
    refine (fits_any _).mono ?_
    rintro e w0 ⟨rfl, F0⟩
    go_wp2_with fail
    refine (RInt.New w0 n).mono ?_
    rintro e w1 ⟨b, a, rfl, R1, F1, hb, ha⟩
    rw [room_of (by omega)] at R1
    have hb' : W.heap.size ≤ b := Nat.le_trans F0.size hb
    have ha' : W.heap.size ≤ a := Nat.le_trans F0.size ha
    have F1' := F0.step F1 nop
    clear F0 F1 hb ha
    go_wp2_with fail
    go_loopw [4] (fun i wr => OrdRel1 W b a n zs i wr) (fun i _ => n - (intOf i).toNat)
    case atStart => exact ⟨0, Nat.zero_le _, rfl, by simpa using R1, F1'⟩
    case round =>
      clear R1 F1'
      obtain ⟨k, hk, rfl, Rk, Fk⟩ := hrel
      by_cases hlt : k < n
      · obtain ⟨ad, rfl, _⟩ := hr.some_of (by omega)
        have cx := (hr.fr Fk (fun _ _ x => x)).int hlt
        have hlt' : (k : Int) < (n : Int) := by omega
        obtain ⟨x, hxk⟩ : ∃ x, x = zs.getD k 0 := ⟨_, rfl⟩
        rw [← hxk] at cx
        have HX := Lib.hid hxk
        clear hxk
        go_wp2_with fail
        refine (RInt.Push_yes Rk x (by rw [List.length_take]; omega)).mono ?_
        rintro e w2 ⟨rfl, R2, F2⟩
        have F2' := Fk.step F2 (two hb' ha')
        rw [HX.out, take_more (by omega)] at R2
        clear Rk Fk F2 cx
        go_wp2
        go_roundw
        case rel => exact ⟨k + 1, by omega, by simp, R2, F2'⟩
        case measure => simp [intOf]; omega
      · obtain rfl : n = k := by omega
        rw [List.take_of_length_le (by omega)] at Rk
        go_wp2_with fail
        refine (RInt.Push_no Rk 7 (by omega)).mono ?_
        rintro e w2 ⟨rfl, F2⟩
        have R2 := Rk.fr F2 (fun x => x) (fun x => x)
        have F2' := Fk.step F2 nop
        clear Rk Fk F2
        go_wp2_with fail
        go_loopw [5] (fun i wr => OrdRel2 W b a n zs i wr) (fun i _ => n - (intOf i).toNat)
        case atStart => exact ⟨0, Nat.zero_le _, rfl, by simpa using R2, F2'⟩
        case round =>
          clear R2 F2'
          obtain ⟨k, hk, rfl, Rk, Fk⟩ := hrel
          by_cases hlt : k < n
          · obtain ⟨ad, rfl, _⟩ := hr.some_of (by omega)
            have hlt' : (k : Int) < (n : Int) := by omega
            obtain ⟨x, hxk⟩ : ∃ x, x = zs.getD k 0 := ⟨_, rfl⟩
            rw [drop_more (by omega), ← hxk] at Rk
            have HX := Lib.hid hxk
            clear hxk
            go_wp2_with fail
            refine (RInt.Pop_yes Rk).mono ?_
            rintro e w2 ⟨rfl, R2, F2⟩
            have F2' := Fk.step F2 (two hb' ha')
            have cx := (hr.fr F2' (fun _ _ x => x)).int hlt
            rw [← HX.out] at cx
            have e1 : (x != x) = false := by simp
            clear Rk Fk F2
            go_wp2
            go_roundw
            case rel => exact ⟨k + 1, by omega, by simp, R2, F2'⟩
            case measure => simp [intOf]; omega
          · obtain rfl : n = k := by omega
            rw [List.drop_of_length_le (by omega)] at Rk
            go_wp2_with fail
            refine (RInt.Pop_no Rk).mono ?_
            rintro e w2 ⟨rfl, F2⟩
            have R2 := Rk.fr F2 (fun x => x) (fun x => x)
            have F2' := Fk.step F2 nop
            clear Rk Fk F2
            go_wp2_with fail
            refine (RInt.Len R2).mono ?_
            rintro e w3 ⟨rfl, rfl⟩
            go_wp2
            go_ret
            exact ⟨rfl, F2'.below⟩
  · have e0 : (200 : Int) < (n : Int) := by omega
    go_enter Try.func3, Try.ntmps3
    go_wp2_with fail
    refine (fits_any _).mono ?_
    rintro e w0 ⟨rfl, F0⟩
    go_wp2_with fail
    refine (fits_any _).mono ?_
    rintro e w1 ⟨rfl, F1⟩
    go_wp2
    go_ret
    exact ⟨rfl, (F0.step F1 nop).below⟩

end Go.Proofs.Ytdgbmjpiicpnlaa
