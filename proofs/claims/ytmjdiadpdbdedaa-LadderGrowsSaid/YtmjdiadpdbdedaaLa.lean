/- La. -/
import Derived.Test.YtmjdiadpdbdedaaChecked
import Derived.WalkKit
import Derived.Laws.IdiomCopy
import Derived.Deep.QuietTactic
import Derived.BigQuiet
import Derived.Lib.Hide
import Derived.OpenShut
import Derived.StillTailTactics
import Derived.Deep.RegionWith
import Derived.Test.YtmjdiadpdbdedaaBase
namespace Go.Proofs.Ytmjdiadpdbdedaa
open Go.RowKit
set_option linter.unusedVariables false
set_option linter.unusedSimpArgs false

/-! ### Sum -/
def ESt : El (Int × Int) := ⟨fun x => [.int .i64 x.1, .int .u8 x.2], 2, fun _ => rfl, by omega, (0, 0)⟩
theorem Reads.st {w : World} {b o n : Nat} {xs : List (Int × Int)} (h : Reads ESt w (some ⟨b, o, none⟩) n xs) {k : Nat} (hk : k < n) :
    w.cell? ⟨b, o + k * 2, none⟩ = some (.int .i64 (xs.getD k ESt.z).1) ∧ w.cell? ⟨b, o + k * 2 + 1, none⟩ = some (.int .u8 (xs.getD k ESt.z).2) :=
  ⟨h.cellj (j := 0) hk (by decide), h.cellj (j := 1) hk (by decide)⟩
def Waits (xs : List (Int × Int)) : Prop := ∀ y, y ∈ xs → 0 ≤ y.1 ∧ y.1 ≤ 70000
def sm (xs : List (Int × Int)) (k : Nat) : Int := ((xs.take k).map Prod.fst).sum
theorem sm_succ {xs : List (Int × Int)} {k : Nat} (h : k < xs.length) : sm xs (k + 1) = sm xs k + (xs.getD k ESt.z).1 := by
  unfold sm
  rw [List.take_add_one, List.map_append, List.sum_append]
  simp [List.getD_eq_getElem?_getD, h]
theorem wait_ok {xs : List (Int × Int)} (hw : Waits xs) {k : Nat} (h : k < xs.length) : 0 ≤ (xs.getD k ESt.z).1 ∧ (xs.getD k ESt.z).1 ≤ 70000 :=
  hw _ (by simp [List.getD_eq_getElem?_getD, h])
theorem sm_in {xs : List (Int × Int)} (hw : Waits xs) : ∀ k, k ≤ xs.length → 0 ≤ sm xs k ∧ sm xs k ≤ 70000 * (k : Int)
  | 0, _ => by simp [sm]
  | k + 1, h => by
    have h1 := sm_in hw k (by omega)
    have h2 := wait_ok hw (show k < xs.length by omega)
    rw [sm_succ (by omega)]; omega

set_option maxHeartbeats 1600000 in
theorem rsum_any (w : World) (A : Option Addr) (n cap : Nat) (xs : List (Int × Int)) (k : Int) (hr : Reads ESt w A n xs) (hn : n ≤ 8) (hw : Waits xs) :
    Calls Try.prog 16 #[.slice A n cap, .int .i64 k] w fun e w' => e = .returned (.int .i64 (sm xs (min k.toNat n))) ∧ w = w' := by
  have HL := Lib.hid hr.1
  go_enter Try.func16, Try.ntmps16
  go_wp2_with fail
  go_loopw [5, 6] (fun d i wr => ∃ j : Nat, i = .int .i64 j ∧ d = .int .i64 (sm xs j) ∧ j ≤ n ∧ j ≤ k.toNat ∧ wr = w) (fun _ i _ => n - (intOf i).toNat)
  case atStart => exact ⟨0, rfl, by simp [sm], by omega, by omega, rfl⟩
  case round =>
    obtain ⟨j, rfl, rfl, hj, hjk, rfl⟩ := hrel
    by_cases h1 : j < n ∧ (j : Int) < k
    · obtain ⟨h1, h2⟩ := h1
      obtain ⟨b, o, rfl, hbw⟩ := hr.plain (by omega)
      obtain ⟨l0, -⟩ := hr.st h1
      have hx := wait_ok hw (show j < xs.length by have := HL.out; omega)
      have hs := sm_in hw j (by have := HL.out; omega)
      have HS := Lib.hid (sm_succ (show j < xs.length by have := HL.out; omega))
      generalize (xs.getD j ESt.z).1 = x at l0 hx HS
      generalize sm xs j = d at hs HS ⊢
      have h3 : (j : Int) < (n : Int) := by omega
      have t1 : decide ((j : Int) < k) = true := decide_eq_true h2
      have t2 : decide ((j : Int) < (n : Int)) = true := decide_eq_true h3
      go_wp2
      go_roundw
      case rel => exact ⟨j + 1, rfl, by rw [HS.out], by omega, by omega, trivial⟩
      case measure => simp [intOf]; omega
    · have HJ := Lib.hid (show j = min k.toNat n by omega)
      by_cases h2 : (j : Int) < k
      · have h3 : ¬ (j : Int) < (n : Int) := by omega
        have t1 : decide ((j : Int) < k) = true := decide_eq_true h2
        have t2 : decide ((j : Int) < (n : Int)) = false := decide_eq_false h3
        clear h1
        go_wp2
        go_ret
        exact ⟨by rw [← HJ.out]; rfl, rfl⟩
      · have t1 : decide ((j : Int) < k) = false := decide_eq_false h2
        clear h1
        go_wp2
        go_ret
        exact ⟨by rw [← HJ.out]; rfl, rfl⟩

section
attribute [local go_sem] max_ii min_ii
set_option maxHeartbeats 1600000 in
theorem sum_any (w : World) (A : Option Addr) (n cap : Nat) (xs : List (Int × Int)) (k : Int) (hr : Reads ESt w A n xs) (hn : n ≤ 8) (hcap : n ≤ cap) (hw : Waits xs) :
    Calls Try.prog 15 #[.slice A n cap, .int .i64 k] w fun e w' => e = .returned (.int .i64 (sm xs (min k.toNat n))) ∧ Fr (fun _ => False) w w' := by
  have HL := Lib.hid hr.1
  rcases (by omega : k < 0 ∨ 0 ≤ k) with h0 | h0
  · have HM := Lib.hid (show min k.toNat n = 0 by omega)
    go_enter Try.func15, Try.ntmps15
    go_wp2_with fail
    go_loopw [5, 16] (fun d i wr => ∃ j : Nat, i = .int .i64 j ∧ d = .int .i64 (sm xs j) ∧ j ≤ 0 ∧ Fr (fun _ => False) w wr) (fun _ i _ => 0 - (intOf i).toNat)
    case atStart => exact ⟨0, rfl, by simp [sm], by omega, Fr.refl _ w⟩
    case round =>
      obtain ⟨j, rfl, rfl, hj, Fk⟩ := hrel
      by_cases h1 : j < 0
      · omega
      · have hj2 : j = 0 := by omega
        have h3 : ¬ (j : Int) < (0 : Int) := by omega
        have HJ := Lib.hid hj2
        have HF := Lib.hid Fk
        clear h1 hj2 Fk
        go_wp2
        go_ret
        exact ⟨congrArg (fun z => Ending.returned (.int .i64 (sm xs z))) (by have := HM.out; have := HJ.out; omega), HF.out⟩
  · obtain ⟨q, rfl⟩ : ∃ q : Nat, k = q := ⟨k.toNat, by omega⟩
    by_cases h1 : q ≤ n
    · have HM := Lib.hid (show min (q : Int).toNat n = q by omega)
      have h1' : (q : Int) ≤ (n : Int) := by omega
      go_enter Try.func15, Try.ntmps15
      go_wp2_with fail
      go_loopw [5, 16] (fun d i wr => ∃ j : Nat, i = .int .i64 j ∧ d = .int .i64 (sm xs j) ∧ j ≤ q ∧ Fr (fun _ => False) w wr) (fun _ i _ => q - (intOf i).toNat)
      case atStart => exact ⟨0, rfl, by simp [sm], by omega, Fr.refl _ w⟩
      case round =>
        obtain ⟨j, rfl, rfl, hj, Fk⟩ := hrel
        by_cases h1 : j < q
        · obtain ⟨b, o, rfl, hbw⟩ := hr.plain (by omega)
          obtain ⟨l0, l1⟩ := (hr.fr Fk (fun _ _ x => x)).st (show j < n by omega)
          have hx := wait_ok hw (show j < xs.length by have := HL.out; omega)
          have hs := sm_in hw j (by have := HL.out; omega)
          have HS := Lib.hid (sm_succ (show j < xs.length by have := HL.out; omega))
          generalize xs.getD j ESt.z = x at l0 l1 hx HS
          obtain ⟨x, y⟩ := x
          simp only at l0 l1 hx HS
          generalize sm xs j = d at hs HS ⊢
          have h3 : (j : Int) < (q : Int) := by omega
          have B := alloc_is (w := wr) (n := wr.heap.size) (.cells #[.int .i64 x, .int .u8 y] 55) rfl
          obtain ⟨c0, c1⟩ := cells2 B
          have HF := Lib.hid (Fk.alloc (.cells #[.int .i64 x, .int .u8 y] 55))
          clear B Fk
          go_wp2
          go_roundw
          case rel => exact ⟨j + 1, rfl, by rw [HS.out], by omega, HF.out⟩
          case measure => simp [intOf]; omega
        · have hj2 : j = q := by omega
          have h3 : ¬ (j : Int) < (q : Int) := by omega
          have HJ := Lib.hid hj2
          have HF := Lib.hid Fk
          clear h1 hj2 Fk
          go_wp2
          go_ret
          exact ⟨congrArg (fun z => Ending.returned (.int .i64 (sm xs z))) (by have := HM.out; have := HJ.out; omega), HF.out⟩
    · have HM := Lib.hid (show min (q : Int).toNat n = n by omega)
      have h1' : ¬ (q : Int) ≤ (n : Int) := by omega
      go_enter Try.func15, Try.ntmps15
      go_wp2_with fail
      go_loopw [5, 16] (fun d i wr => ∃ j : Nat, i = .int .i64 j ∧ d = .int .i64 (sm xs j) ∧ j ≤ n ∧ Fr (fun _ => False) w wr) (fun _ i _ => n - (intOf i).toNat)
      case atStart => exact ⟨0, rfl, by simp [sm], by omega, Fr.refl _ w⟩
      case round =>
        obtain ⟨j, rfl, rfl, hj, Fk⟩ := hrel
        by_cases h1 : j < n
        · obtain ⟨b, o, rfl, hbw⟩ := hr.plain (by omega)
          obtain ⟨l0, l1⟩ := (hr.fr Fk (fun _ _ x => x)).st (show j < n by omega)
          have hx := wait_ok hw (show j < xs.length by have := HL.out; omega)
          have hs := sm_in hw j (by have := HL.out; omega)
          have HS := Lib.hid (sm_succ (show j < xs.length by have := HL.out; omega))
          generalize xs.getD j ESt.z = x at l0 l1 hx HS
          obtain ⟨x, y⟩ := x
          simp only at l0 l1 hx HS
          generalize sm xs j = d at hs HS ⊢
          have h3 : (j : Int) < (n : Int) := by omega
          have B := alloc_is (w := wr) (n := wr.heap.size) (.cells #[.int .i64 x, .int .u8 y] 55) rfl
          obtain ⟨c0, c1⟩ := cells2 B
          have HF := Lib.hid (Fk.alloc (.cells #[.int .i64 x, .int .u8 y] 55))
          clear B Fk
          go_wp2
          go_roundw
          case rel => exact ⟨j + 1, rfl, by rw [HS.out], by omega, HF.out⟩
          case measure => simp [intOf]; omega
        · have hj2 : j = n := by omega
          have h3 : ¬ (j : Int) < (n : Int) := by omega
          have HJ := Lib.hid hj2
          have HF := Lib.hid Fk
          clear h1 hj2 Fk
          go_wp2
          go_ret
          exact ⟨congrArg (fun z => Ending.returned (.int .i64 (sm xs z))) (by have := HM.out; have := HJ.out; omega), HF.out⟩
end

end Go.Proofs.Ytmjdiadpdbdedaa
