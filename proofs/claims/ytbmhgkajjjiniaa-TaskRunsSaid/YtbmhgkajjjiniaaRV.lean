/- RV. -/
import Derived.Test.YtbmhgkajjjiniaaChecked
import Derived.WalkKit
import Derived.Laws.IdiomCopy
import Derived.Deep.QuietTactic
import Derived.BigQuiet
import Derived.Lib.Hide
import Derived.OpenShut
import Derived.StillTailTactics
import Derived.Deep.RegionWith
import Derived.Deep.RegionLaw
import Derived.Deep.Slices
import Derived.Deep.RegionHeld3
import Derived.OwnWalk
import Derived.Test.YtbmhgkajjjiniaaBase
import Derived.Test.YtbmhgkajjjiniaaCalm
import Derived.Test.YtbmhgkajjjiniaaCalmT
import Derived.Test.YtbmhgkajjjiniaaCel
namespace Go.Proofs.Ytbmhgkajjjiniaa
open Go.RowKit
set_option linter.unusedVariables false
set_option linter.unusedSimpArgs false

namespace RV
def E : El (Int × Int) := ⟨fun x => [.int .i64 x.1, .int .i64 x.2], 2, fun _ => rfl, by omega, (0, 0)⟩
abbrev Rw := Raw E 86 64
theorem wrap_in {x : Int} (h0 : -9223372036854775808 ≤ x) (h1 : x ≤ 9223372036854775807) : IntKind.i64.wrap x = x := IntWalk.i64_in _ (by omega)
theorem Calm.cellsT {w : World} {b : Nat} {x0 x1 : Value} {t : TypeId} (h : w.heap[b]? = some (.cells #[x0, x1] t (0, 0))) : (∀ n : Calm w, n.to.cell? ⟨b, 0, none⟩ = some x0) ∧ (∀ n : Calm w, n.to.cell? ⟨b, 1, none⟩ = some x1) := by
  refine ⟨fun n => ?_, fun n => ?_⟩ <;> (rw [cell_of (n.fr.at_ h (fun x => x))]; rfl)
section
variable {w : World} {b a c f n : Nat} {ys : List (Int × Int)}
theorem get1 (h : Rw w b a c f n ys) {q : Nat} (hq : q < c) {y0 y1} (hy : ys.getD q E.z = (y0, y1)) : w.cell? ⟨a, q * 2, none⟩ = some (.int .i64 y0) ∧ w.cell? ⟨a, q * 2 + 1, none⟩ = some (.int .i64 y1) := by
  refine ⟨?_, ?_⟩
  · have := h.el hq (j := 0) (show 0 < 2 by omega); rw [hy] at this; exact this
  · have := h.el hq (j := 1) (show 1 < 2 by omega); rw [hy] at this; exact this
theorem put1 (h : Rw w b a c f n ys) (q : Nat) (x0 : Int) (x1 : Int) (hq : q < c) : Rw ((w.setCell ⟨a, q * 2, none⟩ (.int .i64 x0)).setCell ⟨a, q * 2 + 1, none⟩ (.int .i64 x1)) b a c f n (ys.set q (x0, x1)) := h.put q (x0, x1) hq
theorem putF {S : Nat → Prop} {u : World} (h : Fr S u w) (hb : a < u.heap.size → S a) (q : Nat) (x0 : Int) (x1 : Int) : Fr S u ((w.setCell ⟨a, q * 2, none⟩ (.int .i64 x0)).setCell ⟨a, q * 2 + 1, none⟩ (.int .i64 x1)) := Fr.setCells hb (E.enc (x0, x1)) (q * 2) h
set_option maxHeartbeats 400000 in
theorem len_any (h : Rw w b a c f n ys) :
    Calls Try.prog 40 #[.pointer (some ⟨b, 0, none⟩)] w fun e w' => e = .returned (.int .i64 n) ∧ w = w' := by
  have h2 := h.c2
  clear h
  go_enter Try.func40, Try.ntmps40
  go_wp2
  go_ret
  exact ⟨rfl, rfl⟩
set_option maxHeartbeats 400000 in
theorem len_nil (w : World) : Calls Try.prog 40 #[.pointer none] w fun e w' => e = .returned (.int .i64 0) ∧ w = w' := by
  go_enter Try.func40, Try.ntmps40
  go_wp2
  go_ret
  exact ⟨rfl, rfl⟩
set_option maxHeartbeats 400000 in
theorem cap_any (h : Rw w b a c f n ys) :
    Calls Try.prog 37 #[.pointer (some ⟨b, 0, none⟩)] w fun e w' => e = .returned (.int .i64 c) ∧ w = w' := by
  have h0 := h.c0
  clear h
  go_enter Try.func37, Try.ntmps37
  go_wp2
  go_ret
  exact ⟨rfl, rfl⟩
set_option maxHeartbeats 400000 in
theorem cap_nil (w : World) : Calls Try.prog 37 #[.pointer none] w fun e w' => e = .returned (.int .i64 0) ∧ w = w' := by
  go_enter Try.func37, Try.ntmps37
  go_wp2
  go_ret
  exact ⟨rfl, rfl⟩
set_option maxHeartbeats 800000 in
theorem place_any (h : Rw w b a c f n ys) (i q : Nat) (hq : (f + i) % c = q) (hf : f < c) (hi : i < c) :
    Calls Try.prog 47 #[.pointer (some ⟨b, 0, none⟩), .int .i64 i] w fun e w' => e = .returned (.pointer (some ⟨a, q * 2, none⟩)) ∧ ∃ m, w' = w.drewN m := by
  have h0 := h.c0
  have h1 := h.c1
  have hc := h.cap
  clear h
  have hqc : q < c := by rw [← hq]; exact Nat.mod_lt _ (by omega)
  have e1 : IntKind.i64.wrap ((f : Int) + i) = (f : Int) + i := wrap_in (by omega) (by omega)
  have e2 : Int.tmod ((f : Int) + i) c = (q : Int) := by
    rw [Int.tmod_eq_emod_of_nonneg (by omega), ← hq]; simp
  have e3 : IntKind.i64.wrap (q : Int) = (q : Int) := wrap_in (by omega) (by omega)
  have e4 : ((c : Int) == 0) = false := by simp; omega
  have e5 : (q : Int) < c := by omega
  clear hq
  go_enter Try.func47, Try.ntmps47
  go_wp2
  go_quiet (fail)
  go_wp2
  go_ret
  exact ⟨rfl, _, rfl⟩
theorem place_fr (h : Rw w b a c f n ys) (i q : Nat) (hq : (f + i) % c = q) (hf : f < c) (hi : i < c) :
    Calls Try.prog 47 #[.pointer (some ⟨b, 0, none⟩), .int .i64 i] w fun e w' => e = .returned (.pointer (some ⟨a, q * 2, none⟩)) ∧ Fr (fun _ => False) w w' :=
  (place_any h i q hq hf hi).mono fun _ _ ⟨he, m, hw⟩ => ⟨he, by subst hw; exact (Fr.refl _ _).drewN m⟩
set_option maxHeartbeats 800000 in
theorem has_yes (h : Rw w b a c f n ys) (i : Nat) (hi : i < n) :
    Calls Try.prog 48 #[.pointer (some ⟨b, 0, none⟩), .int .i64 i] w fun e w' => e = .returned (.bool true) ∧ w = w' := by
  have e1 : (i : Int) < (n : Int) := by omega
  go_enter Try.func48, Try.ntmps48
  go_wp2_with (go_at_call 40; refine (len_any h).mono ?_; rintro e w' ⟨rfl, rfl⟩)
  go_ret
  exact ⟨rfl, rfl⟩
set_option maxHeartbeats 800000 in
theorem has_no (h : Rw w b a c f n ys) (i : Int) (hi : i < 0 ∨ (n : Int) ≤ i) :
    Calls Try.prog 48 #[.pointer (some ⟨b, 0, none⟩), .int .i64 i] w fun e w' => e = .returned (.bool false) ∧ w = w' := by
  by_cases h0 : 0 ≤ i
  · have e1 : (n : Int) ≤ i := by omega
    clear hi
    go_enter Try.func48, Try.ntmps48
    go_wp2_with (go_at_call 40; refine (len_any h).mono ?_; rintro e w' ⟨rfl, rfl⟩)
    go_ret
    exact ⟨by simp [e1] <;> omega, rfl⟩
  · have e1 : i < 0 := by omega
    clear hi h0
    go_enter Try.func48, Try.ntmps48
    go_wp2_with (go_at_call 40; refine (len_any h).mono ?_; rintro e w' ⟨rfl, rfl⟩)
    go_ret
    exact ⟨by simp <;> omega, rfl⟩
set_option maxHeartbeats 800000 in
theorem has_nil (w : World) (i : Int) :
    Calls Try.prog 48 #[.pointer none, .int .i64 i] w fun e w' => e = .returned (.bool false) ∧ w = w' := by
  by_cases h0 : 0 ≤ i
  · go_enter Try.func48, Try.ntmps48
    go_wp2_with (go_at_call 40; refine (len_nil _).mono ?_; rintro e w' ⟨rfl, rfl⟩)
    go_ret
    exact ⟨by simp <;> omega, rfl⟩
  · have e1 : i < 0 := by omega
    clear h0
    go_enter Try.func48, Try.ntmps48
    go_wp2_with (go_at_call 40; refine (len_nil _).mono ?_; rintro e w' ⟨rfl, rfl⟩)
    go_ret
    exact ⟨by simp <;> omega, rfl⟩
set_option maxHeartbeats 1600000 in
theorem push_room (h : Rw w b a c f n ys) (x0 : Int) (x1 : Int) (hn : n < c) :
    Calls Try.prog 36 #[.pointer (some ⟨b, 0, none⟩), .agg #[.int .i64 x0, .int .i64 x1]] w fun e w' => e = .returned (.bool true) ∧ Rw w' b a c f (n + 1) (ys.set ((f + n) % c) (x0, x1)) ∧ Fr (fun k => k = b ∨ k = a) w w' := by
  have hf : f < c := by have := h.fst; omega
  have hc := h.cap
  obtain ⟨q, hq⟩ : ∃ q, q = (f + n) % c := ⟨_, rfl⟩
  have hqc : q < c := by rw [hq]; exact Nat.mod_lt _ (by omega)
  rw [← hq]
  have HQ := Lib.hid hq.symm
  clear hq
  have e1 : ((n : Int) == (c : Int)) = false := by simp; omega
  have e2 : (n : Int) + 1 ≤ 1024 := by omega
  have h1 := h.alloc (.cells #[.int .i64 x0, .int .i64 x1] 64)
  have BX := alloc_is (w := w) (n := w.heap.size) (.cells #[.int .i64 x0, .int .i64 x1] 64) rfl
  have F1 := (Fr.refl (fun k => k = b ∨ k = a) w).alloc (.cells #[.int .i64 x0, .int .i64 x1] 64)
  have hlb := h.lb
  generalize hw1 : w.alloc (.cells #[.int .i64 x0, .int .i64 x1] 64) = w1 at h1 BX F1
  have R1 := h1.setn (n + 1) (by omega)
  have F2 := F1.setCell (p := ⟨b, 2, none⟩) (fun _ => .inl rfl) (.int .i64 ((n + 1 : Nat) : Int))
  have BX2 := set_far BX (p := ⟨b, 2, none⟩) (show w.heap.size ≠ b by omega) (.int .i64 ((n + 1 : Nat) : Int))
  have h2 := h1.c2
  have z2 := h1.z 2
  have ec : ((n + 1 : Nat) : Int) = (n : Int) + 1 := by omega
  rw [ec] at R1 F2 BX2
  generalize hw2 : w1.setCell ⟨b, 2, none⟩ (.int .i64 ((n : Int) + 1)) = w2 at R1 F2 BX2
  have N2 : ∀ x : Calm w2, x.to.cell? ⟨b, 2, none⟩ = some (.int .i64 ((n : Int) + 1)) := fun x => by rw [← ec]; exact (R1.fr x.fr (fun x => x) (fun x => x)).c2
  obtain ⟨m0, m1⟩ := Calm.cellsT BX2
  have HP := Lib.hid (fun x : Calm w2 => place_fr (R1.fr x.fr (fun x => x) (fun x => x)) n q HQ.out hf hn)
  have HR1 := Lib.hid R1
  have g1 : IntKind.i64.wrap ((n : Int) + 1 - 1) = (n : Int) := by rw [show (n : Int) + 1 - 1 = (n : Int) from by omega]; exact wrap_in (by omega) (by omega)
  clear R1 ec
  go_enter Try.func36, Try.ntmps36
  go_wp2_with (first | (go_at_call 40; refine (len_any h1).mono ?_; rintro e w' ⟨rfl, rfl⟩) | (go_at_call 37; refine (cap_any h1).mono ?_; rintro e w' ⟨rfl, rfl⟩))
  (refine wp_region_calm_tail 9 (by kernel_rfl) (by kernel_rfl) ?_; simp only [List.take_succ_cons, List.take_zero, List.drop_succ_cons, List.drop_zero]; (repeat (go_big_quiet_step ((go_at_call 47; exact Calm.of (HP.out _))))); refine wpQuiet_nil ?_; intro _ hwq0; obtain ⟨nq, hwq1⟩ := hwq0; subst hwq1)
  have R3 := HR1.out.fr nq.fr (fun x => x) (fun x => x)
  have F3 := F2.trans nq.fr (fun _ _ h => h.elim)
  generalize nq.to = w3 at R3 F3 ⊢
  clear N2 m0 m1 HR1
  obtain ⟨y, hy⟩ : ∃ y, ys.getD q E.z = y := ⟨_, rfl⟩
  obtain ⟨y0, y1⟩ := y
  obtain ⟨l0, l1⟩ := get1 R3 hqc hy
  have zz0 := R3.za (q * 2)
  have zz1 := R3.za (q * 2 + 1)
  clear hy g1
  go_wp2
  go_ret
  exact ⟨rfl, put1 R3 q x0 x1 hqc, putF F3 (fun _ => .inr rfl) q x0 x1⟩
set_option maxHeartbeats 800000 in
theorem push_full (h : Rw w b a c f n ys) (x0 : Int) (x1 : Int) (hn : n = c) :
    Calls Try.prog 36 #[.pointer (some ⟨b, 0, none⟩), .agg #[.int .i64 x0, .int .i64 x1]] w fun e w' => e = .returned (.bool false) ∧ Fr (fun _ => False) w w' := by
  subst hn
  have h1 := h.alloc (.cells #[.int .i64 x0, .int .i64 x1] 64)
  have F1 := (Fr.refl (fun _ => False) w).alloc (.cells #[.int .i64 x0, .int .i64 x1] 64)
  go_enter Try.func36, Try.ntmps36
  go_wp2_with (first | (go_at_call 40; refine (len_any h1).mono ?_; rintro e w' ⟨rfl, rfl⟩) | (go_at_call 37; refine (cap_any h1).mono ?_; rintro e w' ⟨rfl, rfl⟩))
  go_ret
  exact ⟨rfl, F1⟩
set_option maxHeartbeats 800000 in
theorem push_nil (w : World) (x0 : Int) (x1 : Int) :
    Calls Try.prog 36 #[.pointer none, .agg #[.int .i64 x0, .int .i64 x1]] w fun e w' => e = .returned (.bool false) ∧ Fr (fun _ => False) w w' := by
  have F1 := (Fr.refl (fun _ => False) w).alloc (.cells #[.int .i64 x0, .int .i64 x1] 64)
  go_enter Try.func36, Try.ntmps36
  go_wp2_with (first | (go_at_call 40; refine (len_nil _).mono ?_; rintro e w' ⟨rfl, rfl⟩) | (go_at_call 37; refine (cap_nil _).mono ?_; rintro e w' ⟨rfl, rfl⟩))
  go_ret
  exact ⟨rfl, F1⟩
end
end RV

end Go.Proofs.Ytbmhgkajjjiniaa
