/- Contracts of the functions that the laws of layer 1 use; the walk of RingNil. -/
import Derived.Test.YtdgbmjpiicpnlaaChecked
import Derived.WalkKit
import Derived.Laws.IdiomCopy
import Derived.Deep.QuietTactic
import Derived.BigQuiet
import Derived.Lib.Hide
import Derived.Test.YtdgbmjpiicpnlaaBase
import Derived.Test.YtdgbmjpiicpnlaaRInt
import Derived.Test.YtdgbmjpiicpnlaaRIntB
import Derived.Test.YtdgbmjpiicpnlaaRIntC
import Derived.Test.YtdgbmjpiicpnlaaRIntA
namespace Go.Proofs.Ytdgbmjpiicpnlaa
open Go.RowKit
set_option linter.unusedVariables false
set_option linter.unusedSimpArgs false

/-! ### handbellref01.Same -/
def sameB (xs ys : List Int) : Bool := decide (xs = ys)

theorem same_len {xs ys : List Int} (h : xs.length ≠ ys.length) : sameB xs ys = false := by
  unfold sameB; exact decide_eq_false (fun e => h (by rw [e]))
theorem same_not {xs ys : List Int} {k : Nat} (h : xs.getD k 0 ≠ ys.getD k 0) : sameB xs ys = false := by
  unfold sameB; exact decide_eq_false (fun e => h (by rw [e]))
theorem same_all {xs ys : List Int} (hl : xs.length = ys.length) (h : ∀ j, j < xs.length → xs.getD j 0 = ys.getD j 0) : sameB xs ys = true := by
  unfold sameB
  refine decide_eq_true (List.ext_getElem hl fun i h1 h2 => ?_)
  have := h i h1
  simpa [List.getD_eq_getElem?_getD, List.getElem?_eq_getElem h1, List.getElem?_eq_getElem h2] using this

theorem Reads.int {w : World} {ad : Addr} {n : Nat} {xs : List Int} (h : Reads RInt.E w (some ad) n xs) {k : Nat} (hk : k < n) : w.cell? (ad.add k) = some (.int .i64 (xs.getD k 0)) := by
  rw [h.cell1 rfl hk]; rfl

def SamePost (w : World) (r : Bool) (e : Ending) (w' : World) : Prop := e = .returned (.bool r) ∧ ∃ m, w' = w.drewN m
def SameRel (w : World) (n : Nat) (xs ys : List Int) (i : Value) (wr : World) : Prop := ∃ k : Nat, k ≤ n ∧ i = .int .i64 k ∧ (∀ j, j < k → xs.getD j 0 = ys.getD j 0) ∧ ∃ m, wr = w.drewN m

set_option maxRecDepth 100000 in
set_option maxHeartbeats 1000000 in
theorem Same (w : World) (A B : Option Addr) (n m c d : Nat) (xs ys : List Int) (hx : Reads RInt.E w A n xs) (hy : Reads RInt.E w B m ys) (hn : n ≤ 140737488351232) (hm : m ≤ 140737488351232) :
    Calls Try.prog 15 #[.slice A n c, .slice B m d] w (SamePost w (sameB xs ys)) := by
  by_cases hnm : n = m
  · subst hnm
    have e0 : ((n : Int) != (n : Int)) = false := by simp
    go_enter Try.func15, Try.ntmps15
    go_wp2
    go_loopw [5] (fun i wr => SameRel w n xs ys i wr) (fun i _ => n - (intOf i).toNat)
    case atStart => exact ⟨0, Nat.zero_le _, rfl, fun j hj => by omega, 0, rfl⟩
    case round =>
      obtain ⟨k, hk, rfl, hall, mm, rfl⟩ := hrel
      by_cases hlt : k < n
      · obtain ⟨ad, rfl, _⟩ := hx.some_of (by omega)
        obtain ⟨bd, rfl, _⟩ := hy.some_of (by omega)
        have cx := hx.int hlt
        have cy := hy.int hlt
        have hlt' : (k : Int) < (n : Int) := by omega
        obtain ⟨x, hxk⟩ : ∃ x, x = xs.getD k 0 := ⟨_, rfl⟩
        obtain ⟨y, hyk⟩ : ∃ y, y = ys.getD k 0 := ⟨_, rfl⟩
        rw [← hxk] at cx
        rw [← hyk] at cy
        have HX := Lib.hid hxk
        have HY := Lib.hid hyk
        clear hxk hyk
        by_cases hxy : x = y
        · have e1 : (x != y) = false := by simp [hxy]
          have HE := Lib.hid hxy
          clear hxy
          go_wp2
          go_quiet (fail)
          go_wp2
          go_roundw
          case rel => exact ⟨k + 1, by omega, by simp, fun j hj => by
            by_cases e : j = k
            · subst e; rw [← HX.out, ← HY.out, HE.out]
            · exact hall j (by omega), _, rfl⟩
          case measure => simp [intOf]; omega
        · have e1 : (x != y) = true := by simp [hxy]
          have HE := Lib.hid hxy
          clear hxy
          go_wp2
          go_quiet (fail)
          go_wp2
          go_ret
          exact ⟨by rw [same_not (k := k) (by rw [← HX.out, ← HY.out]; exact HE.out)]; rfl, mm + nq, World.drewN_drewN _ _ _⟩
      · obtain rfl : n = k := by omega
        go_wp2
        go_ret
        exact ⟨by rw [same_all (by rw [hx.1, hy.1]) (by rw [hx.1]; exact hall)]; rfl, mm, rfl⟩
  · have e0 : ((n : Int) != (m : Int)) = true := by simp; omega
    go_enter Try.func15, Try.ntmps15
    go_wp2
    go_ret
    exact ⟨by rw [same_len (by rw [hx.1, hy.1]; exact hnm)]; rfl, 0, rfl⟩

/-! ### handbelllaw01.fits -/
theorem room2 : RInt.room 2 = 2 := by decide

set_option maxRecDepth 100000 in
set_option maxHeartbeats 1000000 in
theorem fits_any (w : World) : Calls Try.prog 9 #[] w fun e w' => e = .returned (.bool true) ∧ Fr (fun _ => False) w w' := by
  go_enter Try.func9, Try.ntmps9
  go_wp2_with fail
  refine (RInt.New w 2).mono ?_
  rintro e w1 ⟨b, a, rfl, R1, F1, hb, ha⟩
  rw [room2] at R1
  go_wp2_with fail
  refine (RInt.Push_yes R1 1 (by decide)).mono ?_
  rintro e w2 ⟨rfl, R2, F2⟩
  go_wp2_with fail
  refine (RInt.Push_yes R2 2 (by decide)).mono ?_
  rintro e w3 ⟨rfl, R3, F3⟩
  go_wp2_with fail
  refine (RInt.Push_no R3 3 (by decide)).mono ?_
  rintro e w4 ⟨rfl, F4⟩
  have R4 := R3.fr F4 (fun x => x) (fun x => x)
  go_wp2_with fail
  refine (RInt.Force_full (y := 1) (l := [2]) R4 4 (by decide)).mono ?_
  rintro e w5 ⟨rfl, R5, F5⟩
  go_wp2_with fail
  refine (RInt.All R5).mono ?_
  rintro e w6 ⟨v, rfl, O6, F6⟩
  obtain ⟨A, c, rfl, Q6, hA⟩ := O6.reads
  go_wp2_with fail
  have Q7 : Reads RInt.E (w6.alloc (.cells #[.int .i64 2, .int .i64 4] 3)) A 2 [2, 4] := Q6.alloc _
  have L7 : Reads RInt.E (w6.alloc (.cells #[.int .i64 2, .int .i64 4] 3)) (some ⟨w6.heap.size, 0, none⟩) 2 [2, 4] := Reads.lit RInt.E w6 3 [2, 4]
  refine (Same _ _ _ 2 2 _ _ [2, 4] [2, 4] Q7 L7 (by omega) (by omega)).mono ?_
  rintro e w7 ⟨rfl, m, rfl⟩
  rw [show sameB [2, 4] [2, 4] = true from by decide]
  go_wp2
  go_ret
  exact ⟨rfl, ((((((F1.step F2 (two hb ha)).step F3 (two hb ha)).step F4 nop).step F5 (two hb ha)).step F6 nop).alloc _).drewN m⟩

set_option maxRecDepth 100000 in
set_option maxHeartbeats 1000000 in
theorem RingNil_walk (x i : Int) (W : World) (hx : (Lit.int .i64 x).wf = true) (hi : (Lit.int .i64 i).wf = true) :
    Calls Try.prog 8 #[.int .i64 x, .int .i64 i] W fun e w' => e = .returned (.bool true) ∧ Below W.heap.size W w' := by
  clear hx hi
  go_enter Try.func8, Try.ntmps8
  go_wp2_with fail
  refine (RInt.pop_nil _).mono ?_
  rintro e w1 ⟨rfl, rfl⟩
  go_wp2_with fail
  refine (RInt.force_nil _ x).mono ?_
  rintro e w1 ⟨rfl, rfl⟩
  go_wp2_with fail
  refine (RInt.at_nil _ i).mono ?_
  rintro e w1 ⟨rfl, F1⟩
  go_wp2_with fail
  refine (fits_any _).mono ?_
  rintro e w2 ⟨rfl, F2⟩
  go_wp2_with fail
  refine (RInt.push_nil _ x).mono ?_
  rintro e w3 ⟨rfl, rfl⟩
  go_wp2_with fail
  refine (RInt.set_nil _ i x).mono ?_
  rintro e w3 ⟨rfl, rfl⟩
  go_wp2_with fail
  refine (RInt.len_nil _).mono ?_
  rintro e w3 ⟨rfl, rfl⟩
  go_wp2_with fail
  refine (RInt.cap_nil _).mono ?_
  rintro e w3 ⟨rfl, rfl⟩
  go_wp2_with fail
  refine (RInt.all_nil _).mono ?_
  rintro e w3 ⟨rfl, rfl⟩
  go_wp2
  go_ret
  exact ⟨rfl, (F1.step F2 nop).below⟩

end Go.Proofs.Ytdgbmjpiicpnlaa
