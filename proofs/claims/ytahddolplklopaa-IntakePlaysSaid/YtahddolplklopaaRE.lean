/- RE. -/
import Derived.Test.YtahddolplklopaaChecked
import Derived.WalkKit
import Derived.Laws.IdiomCopy
import Derived.Deep.QuietTactic
import Derived.BigQuiet
import Derived.Lib.Hide
import Derived.OpenShut
import Derived.StillTailTactics
import Derived.Deep.RegionWith
import Derived.Deep.RegionLaw
import Derived.Deep.Slices
import Derived.Deep.RegionHeld3
import Derived.OwnWalk
import Derived.Test.YtahddolplklopaaBase
import Derived.Test.YtahddolplklopaaCalm
import Derived.Test.YtahddolplklopaaCalmT
import Derived.Test.YtahddolplklopaaCel
namespace Go.Proofs.Ytahddolplklopaa
open Go.RowKit
set_option linter.unusedVariables false
set_option linter.unusedSimpArgs false

namespace RE
def E : El (Int × Bool × Int) := ⟨fun x => [.int .i64 x.1, .bool x.2.1, .int .i64 x.2.2], 3, fun _ => rfl, by omega, (0, false, 0)⟩
abbrev Rw := Raw E 107 56
theorem wrap_in {x : Int} (h0 : -9223372036854775808 ≤ x) (h1 : x ≤ 9223372036854775807) : IntKind.i64.wrap x = x := IntWalk.i64_in _ (by omega)
theorem Calm.cellsT {w : World} {b : Nat} {x0 x1 x2 : Value} {t : TypeId} (h : w.heap[b]? = some (.cells #[x0, x1, x2] t (0, 0))) : (∀ n : Calm w, n.to.cell? ⟨b, 0, none⟩ = some x0) ∧ (∀ n : Calm w, n.to.cell? ⟨b, 1, none⟩ = some x1) ∧ (∀ n : Calm w, n.to.cell? ⟨b, 2, none⟩ = some x2) := by
  refine ⟨fun n => ?_, fun n => ?_, fun n => ?_⟩ <;> (rw [cell_of (n.fr.at_ h (fun x => x))]; rfl)
section
variable {w : World} {b a c f n : Nat} {ys : List (Int × Bool × Int)}
theorem get1 (h : Rw w b a c f n ys) {q : Nat} (hq : q < c) {y0 y1 y2} (hy : ys.getD q E.z = (y0, y1, y2)) : w.cell? ⟨a, q * 3, none⟩ = some (.int .i64 y0) ∧ w.cell? ⟨a, q * 3 + 1, none⟩ = some (.bool y1) ∧ w.cell? ⟨a, q * 3 + 2, none⟩ = some (.int .i64 y2) := by
  refine ⟨?_, ?_, ?_⟩
  · have := h.el hq (j := 0) (show 0 < 3 by omega); rw [hy] at this; exact this
  · have := h.el hq (j := 1) (show 1 < 3 by omega); rw [hy] at this; exact this
  · have := h.el hq (j := 2) (show 2 < 3 by omega); rw [hy] at this; exact this
theorem put1 (h : Rw w b a c f n ys) (q : Nat) (x0 : Int) (x1 : Bool) (x2 : Int) (hq : q < c) : Rw (((w.setCell ⟨a, q * 3, none⟩ (.int .i64 x0)).setCell ⟨a, q * 3 + 1, none⟩ (.bool x1)).setCell ⟨a, q * 3 + 2, none⟩ (.int .i64 x2)) b a c f n (ys.set q (x0, x1, x2)) := h.put q (x0, x1, x2) hq
theorem putF {S : Nat → Prop} {u : World} (h : Fr S u w) (hb : a < u.heap.size → S a) (q : Nat) (x0 : Int) (x1 : Bool) (x2 : Int) : Fr S u (((w.setCell ⟨a, q * 3, none⟩ (.int .i64 x0)).setCell ⟨a, q * 3 + 1, none⟩ (.bool x1)).setCell ⟨a, q * 3 + 2, none⟩ (.int .i64 x2)) := Fr.setCells hb (E.enc (x0, x1, x2)) (q * 3) h
set_option maxHeartbeats 400000 in
theorem len_any (h : Rw w b a c f n ys) :
    Calls Try.prog 44 #[.pointer (some ⟨b, 0, none⟩)] w fun e w' => e = .returned (.int .i64 n) ∧ w = w' := by
  have h2 := h.c2
  clear h
  go_enter Try.func44, Try.ntmps44
  go_wp2
  go_ret
  exact ⟨rfl, rfl⟩
set_option maxHeartbeats 400000 in
theorem len_nil (w : World) : Calls Try.prog 44 #[.pointer none] w fun e w' => e = .returned (.int .i64 0) ∧ w = w' := by
  go_enter Try.func44, Try.ntmps44
  go_wp2
  go_ret
  exact ⟨rfl, rfl⟩
set_option maxHeartbeats 400000 in
theorem cap_any (h : Rw w b a c f n ys) :
    Calls Try.prog 47 #[.pointer (some ⟨b, 0, none⟩)] w fun e w' => e = .returned (.int .i64 c) ∧ w = w' := by
  have h0 := h.c0
  clear h
  go_enter Try.func47, Try.ntmps47
  go_wp2
  go_ret
  exact ⟨rfl, rfl⟩
set_option maxHeartbeats 400000 in
theorem cap_nil (w : World) : Calls Try.prog 47 #[.pointer none] w fun e w' => e = .returned (.int .i64 0) ∧ w = w' := by
  go_enter Try.func47, Try.ntmps47
  go_wp2
  go_ret
  exact ⟨rfl, rfl⟩
set_option maxHeartbeats 800000 in
theorem place_any (h : Rw w b a c f n ys) (i q : Nat) (hq : (f + i) % c = q) (hf : f < c) (hi : i < c) :
    Calls Try.prog 45 #[.pointer (some ⟨b, 0, none⟩), .int .i64 i] w fun e w' => e = .returned (.pointer (some ⟨a, q * 3, none⟩)) ∧ ∃ m, w' = w.drewN m := by
  have h0 := h.c0
  have h1 := h.c1
  have hc := h.cap
  clear h
  have hqc : q < c := by rw [← hq]; exact Nat.mod_lt _ (by omega)
  have e1 : IntKind.i64.wrap ((f : Int) + i) = (f : Int) + i := wrap_in (by omega) (by omega)
  have e2 : Int.tmod ((f : Int) + i) c = (q : Int) := by
    rw [Int.tmod_eq_emod_of_nonneg (by omega), ← hq]; simp
  have e3 : IntKind.i64.wrap (q : Int) = (q : Int) := wrap_in (by omega) (by omega)
  have e4 : ((c : Int) == 0) = false := by simp; omega
  have e5 : (q : Int) < c := by omega
  clear hq
  go_enter Try.func45, Try.ntmps45
  go_wp2
  go_quiet (fail)
  go_wp2
  go_ret
  exact ⟨rfl, _, rfl⟩
theorem place_fr (h : Rw w b a c f n ys) (i q : Nat) (hq : (f + i) % c = q) (hf : f < c) (hi : i < c) :
    Calls Try.prog 45 #[.pointer (some ⟨b, 0, none⟩), .int .i64 i] w fun e w' => e = .returned (.pointer (some ⟨a, q * 3, none⟩)) ∧ Fr (fun _ => False) w w' :=
  (place_any h i q hq hf hi).mono fun _ _ ⟨he, m, hw⟩ => ⟨he, by subst hw; exact (Fr.refl _ _).drewN m⟩
set_option maxHeartbeats 800000 in
theorem has_yes (h : Rw w b a c f n ys) (i : Nat) (hi : i < n) :
    Calls Try.prog 46 #[.pointer (some ⟨b, 0, none⟩), .int .i64 i] w fun e w' => e = .returned (.bool true) ∧ w = w' := by
  have e1 : (i : Int) < (n : Int) := by omega
  go_enter Try.func46, Try.ntmps46
  go_wp2_with (go_at_call 44; refine (len_any h).mono ?_; rintro e w' ⟨rfl, rfl⟩)
  go_ret
  exact ⟨rfl, rfl⟩
set_option maxHeartbeats 800000 in
theorem has_no (h : Rw w b a c f n ys) (i : Int) (hi : i < 0 ∨ (n : Int) ≤ i) :
    Calls Try.prog 46 #[.pointer (some ⟨b, 0, none⟩), .int .i64 i] w fun e w' => e = .returned (.bool false) ∧ w = w' := by
  by_cases h0 : 0 ≤ i
  · have e1 : (n : Int) ≤ i := by omega
    clear hi
    go_enter Try.func46, Try.ntmps46
    go_wp2_with (go_at_call 44; refine (len_any h).mono ?_; rintro e w' ⟨rfl, rfl⟩)
    go_ret
    exact ⟨by simp [e1] <;> omega, rfl⟩
  · have e1 : i < 0 := by omega
    clear hi h0
    go_enter Try.func46, Try.ntmps46
    go_wp2_with (go_at_call 44; refine (len_any h).mono ?_; rintro e w' ⟨rfl, rfl⟩)
    go_ret
    exact ⟨by simp <;> omega, rfl⟩
set_option maxHeartbeats 800000 in
theorem has_nil (w : World) (i : Int) :
    Calls Try.prog 46 #[.pointer none, .int .i64 i] w fun e w' => e = .returned (.bool false) ∧ w = w' := by
  by_cases h0 : 0 ≤ i
  · go_enter Try.func46, Try.ntmps46
    go_wp2_with (go_at_call 44; refine (len_nil _).mono ?_; rintro e w' ⟨rfl, rfl⟩)
    go_ret
    exact ⟨by simp <;> omega, rfl⟩
  · have e1 : i < 0 := by omega
    clear h0
    go_enter Try.func46, Try.ntmps46
    go_wp2_with (go_at_call 44; refine (len_nil _).mono ?_; rintro e w' ⟨rfl, rfl⟩)
    go_ret
    exact ⟨by simp <;> omega, rfl⟩
set_option maxHeartbeats 1600000 in
theorem push_room (h : Rw w b a c f n ys) (x0 : Int) (x1 : Bool) (x2 : Int) (hn : n < c) :
    Calls Try.prog 41 #[.pointer (some ⟨b, 0, none⟩), .agg #[.int .i64 x0, .bool x1, .int .i64 x2]] w fun e w' => e = .returned (.bool true) ∧ Rw w' b a c f (n + 1) (ys.set ((f + n) % c) (x0, x1, x2)) ∧ Fr (fun k => k = b ∨ k = a) w w' := by
  have hf : f < c := by have := h.fst; omega
  have hc := h.cap
  obtain ⟨q, hq⟩ : ∃ q, q = (f + n) % c := ⟨_, rfl⟩
  have hqc : q < c := by rw [hq]; exact Nat.mod_lt _ (by omega)
  rw [← hq]
  have HQ := Lib.hid hq.symm
  clear hq
  have e1 : ((n : Int) == (c : Int)) = false := by simp; omega
  have e2 : (n : Int) + 1 ≤ 1024 := by omega
  have h1 := h.alloc (.cells #[.int .i64 x0, .bool x1, .int .i64 x2] 56)
  have BX := alloc_is (w := w) (n := w.heap.size) (.cells #[.int .i64 x0, .bool x1, .int .i64 x2] 56) rfl
  have F1 := (Fr.refl (fun k => k = b ∨ k = a) w).alloc (.cells #[.int .i64 x0, .bool x1, .int .i64 x2] 56)
  have hlb := h.lb
  generalize hw1 : w.alloc (.cells #[.int .i64 x0, .bool x1, .int .i64 x2] 56) = w1 at h1 BX F1
  have R1 := h1.setn (n + 1) (by omega)
  have F2 := F1.setCell (p := ⟨b, 2, none⟩) (fun _ => .inl rfl) (.int .i64 ((n + 1 : Nat) : Int))
  have BX2 := set_far BX (p := ⟨b, 2, none⟩) (show w.heap.size ≠ b by omega) (.int .i64 ((n + 1 : Nat) : Int))
  have h2 := h1.c2
  have z2 := h1.z 2
  have ec : ((n + 1 : Nat) : Int) = (n : Int) + 1 := by omega
  rw [ec] at R1 F2 BX2
  generalize hw2 : w1.setCell ⟨b, 2, none⟩ (.int .i64 ((n : Int) + 1)) = w2 at R1 F2 BX2
  have N2 : ∀ x : Calm w2, x.to.cell? ⟨b, 2, none⟩ = some (.int .i64 ((n : Int) + 1)) := fun x => by rw [← ec]; exact (R1.fr x.fr (fun x => x) (fun x => x)).c2
  obtain ⟨m0, m1, m2⟩ := Calm.cellsT BX2
  have HP := Lib.hid (fun x : Calm w2 => place_fr (R1.fr x.fr (fun x => x) (fun x => x)) n q HQ.out hf hn)
  have HR1 := Lib.hid R1
  have g1 : IntKind.i64.wrap ((n : Int) + 1 - 1) = (n : Int) := by rw [show (n : Int) + 1 - 1 = (n : Int) from by omega]; exact wrap_in (by omega) (by omega)
  clear R1 ec
  go_enter Try.func41, Try.ntmps41
  go_wp2_with (first | (go_at_call 44; refine (len_any h1).mono ?_; rintro e w' ⟨rfl, rfl⟩) | (go_at_call 47; refine (cap_any h1).mono ?_; rintro e w' ⟨rfl, rfl⟩))
  (refine wp_region_calm_tail 9 (by kernel_rfl) (by kernel_rfl) ?_; simp only [List.take_succ_cons, List.take_zero, List.drop_succ_cons, List.drop_zero]; (repeat (go_big_quiet_step ((go_at_call 45; exact Calm.of (HP.out _))))); refine wpQuiet_nil ?_; intro _ hwq0; obtain ⟨nq, hwq1⟩ := hwq0; subst hwq1)
  have R3 := HR1.out.fr nq.fr (fun x => x) (fun x => x)
  have F3 := F2.trans nq.fr (fun _ _ h => h.elim)
  generalize nq.to = w3 at R3 F3 ⊢
  clear N2 m0 m1 m2 HR1
  obtain ⟨y, hy⟩ : ∃ y, ys.getD q E.z = y := ⟨_, rfl⟩
  obtain ⟨y0, y1, y2⟩ := y
  obtain ⟨l0, l1, l2⟩ := get1 R3 hqc hy
  have zz0 := R3.za (q * 3)
  have zz1 := R3.za (q * 3 + 1)
  have zz2 := R3.za (q * 3 + 2)
  clear hy g1
  go_wp2
  go_ret
  exact ⟨rfl, put1 R3 q x0 x1 x2 hqc, putF F3 (fun _ => .inr rfl) q x0 x1 x2⟩
set_option maxHeartbeats 800000 in
theorem push_full (h : Rw w b a c f n ys) (x0 : Int) (x1 : Bool) (x2 : Int) (hn : n = c) :
    Calls Try.prog 41 #[.pointer (some ⟨b, 0, none⟩), .agg #[.int .i64 x0, .bool x1, .int .i64 x2]] w fun e w' => e = .returned (.bool false) ∧ Fr (fun _ => False) w w' := by
  subst hn
  have h1 := h.alloc (.cells #[.int .i64 x0, .bool x1, .int .i64 x2] 56)
  have F1 := (Fr.refl (fun _ => False) w).alloc (.cells #[.int .i64 x0, .bool x1, .int .i64 x2] 56)
  go_enter Try.func41, Try.ntmps41
  go_wp2_with (first | (go_at_call 44; refine (len_any h1).mono ?_; rintro e w' ⟨rfl, rfl⟩) | (go_at_call 47; refine (cap_any h1).mono ?_; rintro e w' ⟨rfl, rfl⟩))
  go_ret
  exact ⟨rfl, F1⟩
set_option maxHeartbeats 800000 in
theorem push_nil (w : World) (x0 : Int) (x1 : Bool) (x2 : Int) :
    Calls Try.prog 41 #[.pointer none, .agg #[.int .i64 x0, .bool x1, .int .i64 x2]] w fun e w' => e = .returned (.bool false) ∧ Fr (fun _ => False) w w' := by
  have F1 := (Fr.refl (fun _ => False) w).alloc (.cells #[.int .i64 x0, .bool x1, .int .i64 x2] 56)
  go_enter Try.func41, Try.ntmps41
  go_wp2_with (first | (go_at_call 44; refine (len_nil _).mono ?_; rintro e w' ⟨rfl, rfl⟩) | (go_at_call 47; refine (cap_nil _).mono ?_; rintro e w' ⟨rfl, rfl⟩))
  go_ret
  exact ⟨rfl, F1⟩
end
end RE

end Go.Proofs.Ytahddolplklopaa
