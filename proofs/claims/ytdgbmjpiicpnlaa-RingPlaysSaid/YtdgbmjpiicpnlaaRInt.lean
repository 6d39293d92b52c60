/- What the small functions of a ring of int answer and leave, each by a contract. -/
import Derived.Test.YtdgbmjpiicpnlaaChecked
import Derived.WalkKit
import Derived.Laws.IdiomCopy
import Derived.Deep.QuietTactic
import Derived.BigQuiet
import Derived.Lib.Hide
import Derived.Test.YtdgbmjpiicpnlaaBase
namespace Go.Proofs.Ytdgbmjpiicpnlaa
open Go.RowKit
set_option linter.unusedVariables false
set_option linter.unusedSimpArgs false

/-! ### ring.Ring[int] -/
namespace RInt
def E : El Int := ⟨fun x => [.int .i64 x], 1, fun _ => rfl, Nat.one_pos, 0⟩
abbrev Rw := Raw E 56 3

theorem wrap_in {x : Int} (h0 : -9223372036854775808 ≤ x) (h1 : x ≤ 9223372036854775807) : IntKind.i64.wrap x = x := IntWalk.i64_in _ (by omega)

section
variable {w : World} {b a c f n : Nat} {ys : List Int}
theorem get1 (h : Rw w b a c f n ys) {q : Nat} (hq : q < c) : w.cell? ⟨a, q, none⟩ = some (.int .i64 (ys.getD q E.z)) := by
  have := h.el hq (j := 0) Nat.one_pos
  simpa [E] using this
theorem put1 (h : Rw w b a c f n ys) (q : Nat) (x : Int) (hq : q < c) : Rw (w.setCell ⟨a, q, none⟩ (.int .i64 x)) b a c f n (ys.set q x) := by
  have := h.put q x hq
  rw [show q * E.sz = q from Nat.mul_one q] at this
  exact this

set_option maxHeartbeats 400000 in
theorem len_any (h : Rw w b a c f n ys) :
    Calls Try.prog 13 #[.pointer (some ⟨b, 0, none⟩)] w fun e w' => e = .returned (.int .i64 n) ∧ w = w' := by
  have h2 := h.c2
  clear h
  go_enter Try.func13, Try.ntmps13
  go_wp2
  go_ret
  exact ⟨rfl, rfl⟩

set_option maxHeartbeats 400000 in
theorem len_nil (w : World) :
    Calls Try.prog 13 #[.pointer none] w fun e w' => e = .returned (.int .i64 0) ∧ w = w' := by
  go_enter Try.func13, Try.ntmps13
  go_wp2
  go_ret
  exact ⟨rfl, rfl⟩

set_option maxHeartbeats 400000 in
theorem cap_any (h : Rw w b a c f n ys) :
    Calls Try.prog 27 #[.pointer (some ⟨b, 0, none⟩)] w fun e w' => e = .returned (.int .i64 c) ∧ w = w' := by
  have h0 := h.c0
  clear h
  go_enter Try.func27, Try.ntmps27
  go_wp2
  go_ret
  exact ⟨rfl, rfl⟩

set_option maxHeartbeats 400000 in
theorem cap_nil (w : World) :
    Calls Try.prog 27 #[.pointer none] w fun e w' => e = .returned (.int .i64 0) ∧ w = w' := by
  go_enter Try.func27, Try.ntmps27
  go_wp2
  go_ret
  exact ⟨rfl, rfl⟩

set_option maxHeartbeats 800000 in
theorem place_any (h : Rw w b a c f n ys) (i q : Nat) (hq : (f + i) % c = q) (hf : f < c) (hi : i < c) :
    Calls Try.prog 29 #[.pointer (some ⟨b, 0, none⟩), .int .i64 i] w fun e w' => e = .returned (.pointer (some ⟨a, q, none⟩)) ∧ ∃ m, w' = w.drewN m := by
  have h0 := h.c0
  have h1 := h.c1
  have hc := h.cap
  clear h
  have hqc : q < c := by rw [← hq]; exact Nat.mod_lt _ (by omega)
  have e1 : IntKind.i64.wrap ((f : Int) + i) = (f : Int) + i := wrap_in (by omega) (by omega)
  have e2 : Int.tmod ((f : Int) + i) c = (q : Int) := by
    rw [Int.tmod_eq_emod_of_nonneg (by omega), ← hq]; simp
  have e3 : IntKind.i64.wrap (q : Int) = (q : Int) := wrap_in (by omega) (by omega)
  have e4 : ((c : Int) == 0) = false := by simp; omega
  have e5 : (q : Int) < c := by omega
  clear hq
  go_enter Try.func29, Try.ntmps29
  go_wp2
  go_quiet (fail)
  go_wp2
  go_ret
  exact ⟨rfl, _, rfl⟩

set_option maxHeartbeats 800000 in
theorem has_yes (h : Rw w b a c f n ys) (i : Nat) (hi : i < n) :
    Calls Try.prog 30 #[.pointer (some ⟨b, 0, none⟩), .int .i64 i] w fun e w' => e = .returned (.bool true) ∧ w = w' := by
  have e1 : (i : Int) < (n : Int) := by omega
  go_enter Try.func30, Try.ntmps30
  go_wp2_with (go_at_call 13; refine (len_any h).mono ?_; rintro e w' ⟨rfl, rfl⟩)
  go_ret
  exact ⟨rfl, rfl⟩

set_option maxHeartbeats 800000 in
theorem has_no (h : Rw w b a c f n ys) (i : Int) (hi : i < 0 ∨ (n : Int) ≤ i) :
    Calls Try.prog 30 #[.pointer (some ⟨b, 0, none⟩), .int .i64 i] w fun e w' => e = .returned (.bool false) ∧ w = w' := by
  by_cases h0 : 0 ≤ i
  · have e1 : (n : Int) ≤ i := by omega
    clear hi
    go_enter Try.func30, Try.ntmps30
    go_wp2_with (go_at_call 13; refine (len_any h).mono ?_; rintro e w' ⟨rfl, rfl⟩)
    go_ret
    exact ⟨by simp [e1] <;> omega, rfl⟩
  · have e1 : i < 0 := by omega
    clear hi h0
    go_enter Try.func30, Try.ntmps30
    go_wp2_with (go_at_call 13; refine (len_any h).mono ?_; rintro e w' ⟨rfl, rfl⟩)
    go_ret
    exact ⟨by simp <;> omega, rfl⟩

set_option maxHeartbeats 800000 in
theorem has_nil (w : World) (i : Int) :
    Calls Try.prog 30 #[.pointer none, .int .i64 i] w fun e w' => e = .returned (.bool false) ∧ w = w' := by
  by_cases h0 : 0 ≤ i
  · go_enter Try.func30, Try.ntmps30
    go_wp2_with (go_at_call 13; refine (len_nil _).mono ?_; rintro e w' ⟨rfl, rfl⟩)
    go_ret
    exact ⟨by simp <;> omega, rfl⟩
  · have e1 : i < 0 := by omega
    clear h0
    go_enter Try.func30, Try.ntmps30
    go_wp2_with (go_at_call 13; refine (len_nil _).mono ?_; rintro e w' ⟨rfl, rfl⟩)
    go_ret
    exact ⟨by simp <;> omega, rfl⟩

set_option maxHeartbeats 800000 in
theorem push_room (h : Rw w b a c f n ys) (x : Int) (hn : n < c) :
    Calls Try.prog 11 #[.pointer (some ⟨b, 0, none⟩), .int .i64 x] w fun e w' => e = .returned (.bool true) ∧ Rw w' b a c f (n + 1) (ys.set ((f + n) % c) x) ∧ Fr (fun k => k = b ∨ k = a) w w' := by
  have hf : f < c := by have := h.fst; omega
  have hc := h.cap
  obtain ⟨q, hq⟩ : ∃ q, q = (f + n) % c := ⟨_, rfl⟩
  have hqc : q < c := by rw [hq]; exact Nat.mod_lt _ (by omega)
  rw [← hq]
  have R1 := h.setn (n + 1) (by omega)
  have HQ := Lib.hid hq.symm
  clear hq
  have h2 := h.c2
  have z2 := h.z 2
  have g2 := R1.c2
  have g3 := get1 R1 hqc
  have z3 := R1.za q
  have e1 : ((n : Int) == (c : Int)) = false := by simp; omega
  have e2 : (n : Int) + 1 ≤ 1024 := by omega
  have ec : ((n + 1 : Nat) : Int) = (n : Int) + 1 := by omega
  rw [ec] at R1 g2 g3 z3
  clear ec
  have hab := h.ne
  go_enter Try.func11, Try.ntmps11
  go_wp2_with (first | (go_at_call 13; refine (len_any h).mono ?_; rintro e w' ⟨rfl, rfl⟩) | (go_at_call 27; refine (cap_any h).mono ?_; rintro e w' ⟨rfl, rfl⟩))
  refine (place_any R1 n q HQ.out hf hn).mono ?_
  rintro e w' ⟨rfl, m, rfl⟩
  go_wp2
  go_ret
  refine ⟨rfl, put1 (R1.drewN m) q x hqc, ?_⟩
  exact (((Fr.refl _ w).setCell (p := ⟨b, 2, none⟩) (fun _ => .inl rfl) _).drewN m).setCell (p := ⟨a, q, none⟩) (fun _ => .inr rfl) _

set_option maxHeartbeats 800000 in
theorem push_full (h : Rw w b a c f n ys) (x : Int) (hn : n = c) :
    Calls Try.prog 11 #[.pointer (some ⟨b, 0, none⟩), .int .i64 x] w fun e w' => e = .returned (.bool false) ∧ w = w' := by
  subst hn
  go_enter Try.func11, Try.ntmps11
  go_wp2_with (first | (go_at_call 13; refine (len_any h).mono ?_; rintro e w' ⟨rfl, rfl⟩) | (go_at_call 27; refine (cap_any h).mono ?_; rintro e w' ⟨rfl, rfl⟩))
  go_ret
  exact ⟨rfl, rfl⟩

set_option maxHeartbeats 800000 in
theorem push_nil (w : World) (x : Int) :
    Calls Try.prog 11 #[.pointer none, .int .i64 x] w fun e w' => e = .returned (.bool false) ∧ w = w' := by
  go_enter Try.func11, Try.ntmps11
  go_wp2_with (first | (go_at_call 13; refine (len_nil _).mono ?_; rintro e w' ⟨rfl, rfl⟩) | (go_at_call 27; refine (cap_nil _).mono ?_; rintro e w' ⟨rfl, rfl⟩))
  go_ret
  exact ⟨rfl, rfl⟩
end
end RInt

end Go.Proofs.Ytdgbmjpiicpnlaa
