/- What Pop, Force, At and Set of a ring of int answer and leave, each by a contract. -/
import Derived.Test.YtdgbmjpiicpnlaaChecked
import Derived.WalkKit
import Derived.Laws.IdiomCopy
import Derived.Deep.QuietTactic
import Derived.BigQuiet
import Derived.Lib.Hide
import Derived.Test.YtdgbmjpiicpnlaaBase
import Derived.Test.YtdgbmjpiicpnlaaRInt
namespace Go.Proofs.Ytdgbmjpiicpnlaa
open Go.RowKit
set_option linter.unusedVariables false
set_option linter.unusedSimpArgs false

namespace RInt
section
variable {w : World} {b a c f n : Nat} {ys : List Int}
theorem has0_yes (h : Rw w b a c f n ys) (hn : 0 < n) :
    Calls Try.prog 30 #[.pointer (some ⟨b, 0, none⟩), .int .i64 0] w fun e w' => e = .returned (.bool true) ∧ w = w' := has_yes h 0 hn

theorem place0 (h : Rw w b a c f n ys) (hf : f < c) :
    Calls Try.prog 29 #[.pointer (some ⟨b, 0, none⟩), .int .i64 0] w fun e w' => e = .returned (.pointer (some ⟨a, f, none⟩)) ∧ ∃ m, w' = w.drewN m := place_any h 0 f (Nat.mod_eq_of_lt hf) hf (by omega)

set_option maxHeartbeats 800000 in
theorem pop_yes (h : Rw w b a c f n ys) (hn : 0 < n) :
    Calls Try.prog 12 #[.pointer (some ⟨b, 0, none⟩)] w fun e w' => e = .returned (.tuple #[.int .i64 (ys.getD f E.z), .bool true]) ∧ Rw w' b a c ((f + 1) % c) (n - 1) (ys.set f E.z) ∧ Fr (fun k => k = b ∨ k = a) w w' := by
  have hf : f < c := by have := h.fst; have := h.num; omega
  have hc := h.cap
  have hnc := h.num
  have hab := h.ne
  have g0 := get1 h hf
  have za := h.za f
  go_enter Try.func12, Try.ntmps12
  go_wp2_with fail
  refine (has0_yes h hn).mono ?_
  rintro e w' ⟨rfl, rfl⟩
  go_wp2_with fail
  refine (place0 h hf).mono ?_
  rintro e w' ⟨rfl, m, rfl⟩
  go_wp2_with fail
  refine (place0 (h.drewN m) hf).mono ?_
  rintro e w' ⟨rfl, m', rfl⟩
  go_wp2_with fail
  have R2 : Rw ((w.drewN (m + m')).setCell ⟨a, f, none⟩ (.int .i64 0)) b a c f n (ys.set f E.z) := put1 (h.drewN (m + m')) f E.z hf
  have F2 : Fr (fun k => k = b ∨ k = a) w ((w.drewN (m + m')).setCell ⟨a, f, none⟩ (.int .i64 0)) := ((Fr.refl _ w).drewN (m + m')).setCell (p := ⟨a, f, none⟩) (fun _ => .inr rfl) _
  generalize (w.drewN (m + m')).setCell ⟨a, f, none⟩ (.int .i64 0) = w2 at R2 F2 ⊢
  obtain ⟨q, hq⟩ : ∃ q, q = (f + 1) % c := ⟨_, rfl⟩
  have hqc : q < c := by rw [hq]; exact Nat.mod_lt _ (by omega)
  have e1 : IntKind.i64.wrap ((f : Int) + 1) = (f : Int) + 1 := wrap_in (by omega) (by omega)
  have e2 : Int.tmod ((f : Int) + 1) c = (q : Int) := by
    rw [Int.tmod_eq_emod_of_nonneg (by omega), hq]; simp
  have e3 : IntKind.i64.wrap (q : Int) = (q : Int) := wrap_in (by omega) (by omega)
  have e4 : ((c : Int) == 0) = false := by simp; omega
  have e5 : (q : Int) < c := by omega
  have HQ := Lib.hid hq
  clear hq h g0 za
  have g0 := R2.c0
  have g1 := R2.c1
  have z1 := R2.z 1
  go_region
  have e6 : 0 < (n : Int) := by omega
  have c2 := R2.c2
  have z2 := R2.z 2
  go_wp2
  go_ret2
  have ec : ((n - 1 : Nat) : Int) = (n : Int) - 1 := by omega
  have R3 := ((R2.setf q hqc).setn (n - 1) (by omega)).drew
  rw [ec] at R3
  rw [← HQ.out]
  exact ⟨rfl, R3, ((F2.setCell (p := ⟨b, 1, none⟩) (fun _ => .inl rfl) _).setCell (p := ⟨b, 2, none⟩) (fun _ => .inl rfl) _).drew⟩

theorem has0_no (h : Rw w b a c f n ys) (hn : n = 0) :
    Calls Try.prog 30 #[.pointer (some ⟨b, 0, none⟩), .int .i64 0] w fun e w' => e = .returned (.bool false) ∧ w = w' := has_no h 0 (by omega)

set_option maxHeartbeats 800000 in
theorem pop_no (h : Rw w b a c f n ys) (hn : n = 0) :
    Calls Try.prog 12 #[.pointer (some ⟨b, 0, none⟩)] w fun e w' => e = .returned (.tuple #[.int .i64 0, .bool false]) ∧ w = w' := by
  go_enter Try.func12, Try.ntmps12
  go_wp2_with fail
  refine (has0_no h hn).mono ?_
  rintro e w' ⟨rfl, rfl⟩
  go_wp2
  go_ret2
  exact ⟨rfl, rfl⟩

set_option maxHeartbeats 800000 in
theorem pop_nil (w : World) :
    Calls Try.prog 12 #[.pointer none] w fun e w' => e = .returned (.tuple #[.int .i64 0, .bool false]) ∧ w = w' := by
  go_enter Try.func12, Try.ntmps12
  go_wp2_with fail
  refine (has_nil w 0).mono ?_
  rintro e w' ⟨rfl, rfl⟩
  go_wp2
  go_ret2
  exact ⟨rfl, rfl⟩

set_option maxHeartbeats 800000 in
theorem at_yes (h : Rw w b a c f n ys) (i : Nat) (hi : i < n) :
    Calls Try.prog 28 #[.pointer (some ⟨b, 0, none⟩), .int .i64 i] w fun e w' => e = .returned (.tuple #[.int .i64 (ys.getD ((f + i) % c) E.z), .bool true]) ∧ Fr (fun _ => False) w w' := by
  have hf : f < c := by have := h.fst; have := h.num; omega
  have hnc := h.num
  obtain ⟨q, hq⟩ : ∃ q, q = (f + i) % c := ⟨_, rfl⟩
  have hqc : q < c := by rw [hq]; exact Nat.mod_lt _ (by omega)
  rw [← hq]
  have HQ := Lib.hid hq.symm
  clear hq
  have g0 := get1 h hqc
  go_enter Try.func28, Try.ntmps28
  go_wp2_with fail
  refine (has_yes h i hi).mono ?_
  rintro e w' ⟨rfl, rfl⟩
  go_wp2_with fail
  refine (place_any h i q HQ.out hf (by omega)).mono ?_
  rintro e w' ⟨rfl, m, rfl⟩
  go_wp2
  go_ret2
  exact ⟨rfl, (Fr.refl _ w).drewN m⟩

set_option maxHeartbeats 800000 in
theorem at_no (h : Rw w b a c f n ys) (i : Int) (hi : i < 0 ∨ (n : Int) ≤ i) :
    Calls Try.prog 28 #[.pointer (some ⟨b, 0, none⟩), .int .i64 i] w fun e w' => e = .returned (.tuple #[.int .i64 0, .bool false]) ∧ Fr (fun _ => False) w w' := by
  go_enter Try.func28, Try.ntmps28
  go_wp2_with fail
  refine (has_no h i hi).mono ?_
  rintro e w' ⟨rfl, rfl⟩
  go_wp2
  go_ret2
  exact ⟨rfl, Fr.refl _ _⟩

set_option maxHeartbeats 800000 in
theorem at_nil (w : World) (i : Int) :
    Calls Try.prog 28 #[.pointer none, .int .i64 i] w fun e w' => e = .returned (.tuple #[.int .i64 0, .bool false]) ∧ Fr (fun _ => False) w w' := by
  go_enter Try.func28, Try.ntmps28
  go_wp2_with fail
  refine (has_nil w i).mono ?_
  rintro e w' ⟨rfl, rfl⟩
  go_wp2
  go_ret2
  exact ⟨rfl, Fr.refl _ _⟩

set_option maxHeartbeats 800000 in
theorem set_yes (h : Rw w b a c f n ys) (i : Nat) (x : Int) (hi : i < n) :
    Calls Try.prog 26 #[.pointer (some ⟨b, 0, none⟩), .int .i64 i, .int .i64 x] w fun e w' => e = .returned (.bool true) ∧ Rw w' b a c f n (ys.set ((f + i) % c) x) ∧ Fr (fun k => k = b ∨ k = a) w w' := by
  have hf : f < c := by have := h.fst; have := h.num; omega
  have hnc := h.num
  obtain ⟨q, hq⟩ : ∃ q, q = (f + i) % c := ⟨_, rfl⟩
  have hqc : q < c := by rw [hq]; exact Nat.mod_lt _ (by omega)
  rw [← hq]
  have HQ := Lib.hid hq.symm
  clear hq
  have g0 := get1 h hqc
  have z0 := h.za q
  go_enter Try.func26, Try.ntmps26
  go_wp2_with fail
  refine (has_yes h i hi).mono ?_
  rintro e w' ⟨rfl, rfl⟩
  go_wp2_with fail
  refine (place_any h i q HQ.out hf (by omega)).mono ?_
  rintro e w' ⟨rfl, m, rfl⟩
  go_wp2
  go_ret
  exact ⟨rfl, put1 (h.drewN m) q x hqc, ((Fr.refl _ w).drewN m).setCell (p := ⟨a, q, none⟩) (fun _ => .inr rfl) _⟩

set_option maxHeartbeats 800000 in
theorem set_no (h : Rw w b a c f n ys) (i : Int) (x : Int) (hi : i < 0 ∨ (n : Int) ≤ i) :
    Calls Try.prog 26 #[.pointer (some ⟨b, 0, none⟩), .int .i64 i, .int .i64 x] w fun e w' => e = .returned (.bool false) ∧ w = w' := by
  go_enter Try.func26, Try.ntmps26
  go_wp2_with fail
  refine (has_no h i hi).mono ?_
  rintro e w' ⟨rfl, rfl⟩
  go_wp2
  go_ret
  exact ⟨rfl, rfl⟩

set_option maxHeartbeats 800000 in
theorem set_nil (w : World) (i : Int) (x : Int) :
    Calls Try.prog 26 #[.pointer none, .int .i64 i, .int .i64 x] w fun e w' => e = .returned (.bool false) ∧ w = w' := by
  go_enter Try.func26, Try.ntmps26
  go_wp2_with fail
  refine (has_nil w i).mono ?_
  rintro e w' ⟨rfl, rfl⟩
  go_wp2
  go_ret
  exact ⟨rfl, rfl⟩

set_option maxHeartbeats 800000 in
theorem force_nil (w : World) (x : Int) :
    Calls Try.prog 14 #[.pointer none, .int .i64 x] w fun e w' => e = .returned (.tuple #[.int .i64 0, .bool false]) ∧ w = w' := by
  go_enter Try.func14, Try.ntmps14
  go_wp2
  go_ret2
  exact ⟨rfl, rfl⟩

set_option maxHeartbeats 800000 in
theorem force_room (h : Rw w b a c f n ys) (x : Int) (hn : n < c) :
    Calls Try.prog 14 #[.pointer (some ⟨b, 0, none⟩), .int .i64 x] w fun e w' => e = .returned (.tuple #[.int .i64 0, .bool false]) ∧ Rw w' b a c f (n + 1) (ys.set ((f + n) % c) x) ∧ Fr (fun k => k = b ∨ k = a) w w' := by
  go_enter Try.func14, Try.ntmps14
  go_wp2_with fail
  refine (push_room h x hn).mono ?_
  rintro e w1 ⟨rfl, R1, F1⟩
  go_wp2
  go_ret2
  exact ⟨rfl, R1, F1⟩

set_option maxHeartbeats 800000 in
theorem force_none (h : Rw w b a c f n ys) (x : Int) (hc : c = 0) :
    Calls Try.prog 14 #[.pointer (some ⟨b, 0, none⟩), .int .i64 x] w fun e w' => e = .returned (.tuple #[.int .i64 x, .bool true]) ∧ w = w' := by
  subst hc
  have hn : n = 0 := by have := h.num; omega
  go_enter Try.func14, Try.ntmps14
  go_wp2_with fail
  refine (push_full h x hn).mono ?_
  rintro e w1 ⟨rfl, rfl⟩
  go_wp2_with fail
  refine (cap_any h).mono ?_
  rintro e w1 ⟨rfl, rfl⟩
  go_wp2
  go_ret2
  exact ⟨rfl, rfl⟩

set_option maxHeartbeats 800000 in
theorem force_full (h : Rw w b a c f n ys) (x : Int) (hn : n = c) (hc : 0 < c) :
    Calls Try.prog 14 #[.pointer (some ⟨b, 0, none⟩), .int .i64 x] w fun e w' => e = .returned (.tuple #[.int .i64 (ys.getD f E.z), .bool true]) ∧
      Rw w' b a c ((f + 1) % c) c ((ys.set f E.z).set (((f + 1) % c + (c - 1)) % c) x) ∧ Fr (fun k => k = b ∨ k = a) w w' := by
  subst hn
  have e1 : ((n : Int) == 0) = false := by simp; omega
  go_enter Try.func14, Try.ntmps14
  go_wp2_with fail
  refine (push_full h x rfl).mono ?_
  rintro e w1 ⟨rfl, rfl⟩
  go_wp2_with fail
  refine (cap_any h).mono ?_
  rintro e w1 ⟨rfl, rfl⟩
  go_wp2_with fail
  refine (pop_yes h hc).mono ?_
  rintro e w1 ⟨rfl, R1, F1⟩
  go_wp2_with fail
  refine (push_room R1 x (by omega)).mono ?_
  rintro e w2 ⟨rfl, R2, F2⟩
  rw [show n - 1 + 1 = n from by omega] at R2
  have F3 := F1.trans F2 (fun _ _ hh => hh)
  clear F1 F2
  go_wp2
  go_ret2
  exact ⟨rfl, R2, F3⟩

end
end RInt

end Go.Proofs.Ytdgbmjpiicpnlaa
