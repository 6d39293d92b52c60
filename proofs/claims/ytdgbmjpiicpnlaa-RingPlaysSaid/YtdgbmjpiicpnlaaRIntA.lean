/- A ring of int as a list: what each of its functions answers and leaves. -/
import Derived.Test.YtdgbmjpiicpnlaaChecked
import Derived.WalkKit
import Derived.Laws.IdiomCopy
import Derived.Deep.QuietTactic
import Derived.BigQuiet
import Derived.Lib.Hide
import Derived.Test.YtdgbmjpiicpnlaaBase
import Derived.Test.YtdgbmjpiicpnlaaRInt
import Derived.Test.YtdgbmjpiicpnlaaRIntB
import Derived.Test.YtdgbmjpiicpnlaaRIntC
namespace Go.Proofs.Ytdgbmjpiicpnlaa
open Go.RowKit
set_option linter.unusedVariables false
set_option linter.unusedSimpArgs false

namespace RInt
/-- A ring at block b, its room at block a: for c, and what is there, in order. -/
def Rg (w : World) (b a c : Nat) (l : List Int) : Prop := ∃ f n ys, Rw w b a c f n ys ∧ l = its E.z ys f n

section
variable {w w' : World} {b a c : Nat} {l : List Int}
theorem Rg.le (h : Rg w b a c l) : l.length ≤ c := by
  obtain ⟨f, n, ys, R, rfl⟩ := h
  rw [its_length]; exact R.num
theorem Rg.cap (h : Rg w b a c l) : c ≤ 1024 := by
  obtain ⟨f, n, ys, R, rfl⟩ := h
  exact R.cap
theorem Rg.lb (h : Rg w b a c l) : b < w.heap.size := by obtain ⟨f, n, ys, R, rfl⟩ := h; exact R.lb
theorem Rg.la (h : Rg w b a c l) : a < w.heap.size := by obtain ⟨f, n, ys, R, rfl⟩ := h; exact R.la
theorem Rg.ne (h : Rg w b a c l) : a ≠ b := by obtain ⟨f, n, ys, R, rfl⟩ := h; exact R.ne
theorem Rg.fr {S : Nat → Prop} (h : Rg w b a c l) (hf : Fr S w w') (hb : ¬ S b) (ha : ¬ S a) : Rg w' b a c l := by
  obtain ⟨f, n, ys, R, rfl⟩ := h
  exact ⟨f, n, ys, R.fr hf hb ha, rfl⟩
theorem Rg.alloc (h : Rg w b a c l) (o : Obj) : Rg (w.alloc o) b a c l := by
  obtain ⟨f, n, ys, R, rfl⟩ := h
  exact ⟨f, n, ys, R.alloc o, rfl⟩
theorem Rg.drewN (h : Rg w b a c l) (m : Nat) : Rg (w.drewN m) b a c l := by
  obtain ⟨f, n, ys, R, rfl⟩ := h
  exact ⟨f, n, ys, R.drewN m, rfl⟩
theorem Rg.drew (h : Rg w b a c l) : Rg w.drew b a c l := h.drewN 1
theorem Rg.far (h : Rg w b a c l) {p : Addr} (hb : b ≠ p.block) (ha : a ≠ p.block) (u : Value) : Rg (w.setCell p u) b a c l := by
  obtain ⟨f, n, ys, R, rfl⟩ := h
  exact ⟨f, n, ys, R.far hb ha u, rfl⟩

theorem New (w : World) (n : Int) :
    Calls Try.prog 10 #[.int .i64 n] w fun e w' => ∃ b a, e = .returned (.pointer (some ⟨b, 0, none⟩)) ∧ Rg w' b a (room n) [] ∧ Fr (fun _ => False) w w' ∧ w.heap.size ≤ b ∧ w.heap.size ≤ a :=
  (new_any w n).mono fun e w' ⟨b, a, he, R, r⟩ => ⟨b, a, he, ⟨0, 0, _, R, rfl⟩, r⟩

theorem Len (h : Rg w b a c l) : Calls Try.prog 13 #[.pointer (some ⟨b, 0, none⟩)] w fun e w' => e = .returned (.int .i64 l.length) ∧ w = w' := by
  obtain ⟨f, n, ys, R, rfl⟩ := h
  rw [its_length]; exact len_any R
theorem Cap (h : Rg w b a c l) : Calls Try.prog 27 #[.pointer (some ⟨b, 0, none⟩)] w fun e w' => e = .returned (.int .i64 c) ∧ w = w' := by
  obtain ⟨f, n, ys, R, rfl⟩ := h
  exact cap_any R
theorem Push_yes (h : Rg w b a c l) (x : Int) (hl : l.length < c) :
    Calls Try.prog 11 #[.pointer (some ⟨b, 0, none⟩), .int .i64 x] w fun e w' => e = .returned (.bool true) ∧ Rg w' b a c (l ++ [x]) ∧ Fr (fun k => k = b ∨ k = a) w w' := by
  obtain ⟨f, n, ys, R, rfl⟩ := h
  rw [its_length] at hl
  refine (push_room R x hl).mono fun e w' ⟨he, R', F⟩ => ⟨he, ⟨f, n + 1, _, R', ?_⟩, F⟩
  rw [← R.len, its_push E.z x ys f n (by rw [R.len]; exact hl)]
theorem Push_no (h : Rg w b a c l) (x : Int) (hl : l.length = c) :
    Calls Try.prog 11 #[.pointer (some ⟨b, 0, none⟩), .int .i64 x] w fun e w' => e = .returned (.bool false) ∧ Fr (fun _ => False) w w' := by
  obtain ⟨f, n, ys, R, rfl⟩ := h
  rw [its_length] at hl
  exact (push_full R x hl).mono fun e w' ⟨he, hw⟩ => ⟨he, by subst hw; exact Fr.refl _ _⟩
theorem Pop_yes {x : Int} (h : Rg w b a c (x :: l)) :
    Calls Try.prog 12 #[.pointer (some ⟨b, 0, none⟩)] w fun e w' => e = .returned (.tuple #[.int .i64 x, .bool true]) ∧ Rg w' b a c l ∧ Fr (fun k => k = b ∨ k = a) w w' := by
  obtain ⟨f, n, ys, R, hl⟩ := h
  have hn : n = l.length + 1 := by have := congrArg List.length hl; rw [its_length] at this; simpa using this.symm
  subst hn
  have hnc := R.num
  have hf : f < ys.length := by have := R.fst; have := R.len; omega
  rw [its_head E.z ys f l.length hf] at hl
  obtain ⟨rfl, h2⟩ := List.cons.inj hl
  refine (pop_yes R (by omega)).mono fun e w' ⟨he, R', F⟩ => ⟨he, ⟨_, l.length, _, R', ?_⟩, F⟩
  rw [← R.len, its_pop E.z E.z ys f l.length hf (by have := R.len; omega)]
  exact h2

theorem Pop_no (h : Rg w b a c []) :
    Calls Try.prog 12 #[.pointer (some ⟨b, 0, none⟩)] w fun e w' => e = .returned (.tuple #[.int .i64 0, .bool false]) ∧ Fr (fun _ => False) w w' := by
  obtain ⟨f, n, ys, R, hl⟩ := h
  have hn : n = 0 := by have := congrArg List.length hl; rw [its_length] at this; simpa using this.symm
  exact (pop_no R hn).mono fun e w' ⟨he, hw⟩ => ⟨he, by subst hw; exact Fr.refl _ _⟩

theorem Force_room (h : Rg w b a c l) (x : Int) (hl : l.length < c) :
    Calls Try.prog 14 #[.pointer (some ⟨b, 0, none⟩), .int .i64 x] w fun e w' => e = .returned (.tuple #[.int .i64 0, .bool false]) ∧ Rg w' b a c (l ++ [x]) ∧ Fr (fun k => k = b ∨ k = a) w w' := by
  obtain ⟨f, n, ys, R, rfl⟩ := h
  rw [its_length] at hl
  refine (force_room R x hl).mono fun e w' ⟨he, R', F⟩ => ⟨he, ⟨f, n + 1, _, R', ?_⟩, F⟩
  rw [← R.len, its_push E.z x ys f n (by rw [R.len]; exact hl)]

theorem Force_full {y : Int} (h : Rg w b a c (y :: l)) (x : Int) (hl : l.length + 1 = c) :
    Calls Try.prog 14 #[.pointer (some ⟨b, 0, none⟩), .int .i64 x] w fun e w' => e = .returned (.tuple #[.int .i64 y, .bool true]) ∧ Rg w' b a c (l ++ [x]) ∧ Fr (fun k => k = b ∨ k = a) w w' := by
  obtain ⟨f, n, ys, R, hl2⟩ := h
  have hn : n = c := by have := congrArg List.length hl2; rw [its_length] at this; simp at this; omega
  subst hn
  have hf : f < ys.length := by have := R.fst; have := R.len; omega
  have hlen := R.len
  obtain rfl : n = l.length + 1 := hl.symm
  rw [its_head E.z ys f l.length hf] at hl2
  obtain ⟨rfl, h2⟩ := List.cons.inj hl2
  refine (force_full R x rfl (by omega)).mono fun e w' ⟨he, R', F⟩ => ⟨he, ⟨_, _, _, R', ?_⟩, F⟩
  have hp := its_pop E.z E.z ys f l.length hf (by omega)
  have h3 : (ys.set f E.z).length = l.length + 1 := by rw [List.length_set, hlen]
  have hq := its_push E.z x (ys.set f E.z) ((f + 1) % (l.length + 1)) l.length (by omega)
  rw [h3] at hq
  rw [hlen] at hp
  rw [show l.length + 1 - 1 = l.length from rfl, hq, hp, ← h2]

theorem Force_none (h : Rg w b a 0 l) (x : Int) :
    Calls Try.prog 14 #[.pointer (some ⟨b, 0, none⟩), .int .i64 x] w fun e w' => e = .returned (.tuple #[.int .i64 x, .bool true]) ∧ Fr (fun _ => False) w w' := by
  obtain ⟨f, n, ys, R, rfl⟩ := h
  exact (force_none R x rfl).mono fun e w' ⟨he, hw⟩ => ⟨he, by subst hw; exact Fr.refl _ _⟩

theorem At_yes (h : Rg w b a c l) (i : Nat) (hi : i < l.length) :
    Calls Try.prog 28 #[.pointer (some ⟨b, 0, none⟩), .int .i64 i] w fun e w' => e = .returned (.tuple #[.int .i64 (l.getD i E.z), .bool true]) ∧ Fr (fun _ => False) w w' := by
  obtain ⟨f, n, ys, R, rfl⟩ := h
  rw [its_length] at hi
  rw [its_getD E.z ys f n i hi, R.len]
  exact at_yes R i hi

theorem At_no (h : Rg w b a c l) (i : Int) (hi : i < 0 ∨ (l.length : Int) ≤ i) :
    Calls Try.prog 28 #[.pointer (some ⟨b, 0, none⟩), .int .i64 i] w fun e w' => e = .returned (.tuple #[.int .i64 0, .bool false]) ∧ Fr (fun _ => False) w w' := by
  obtain ⟨f, n, ys, R, rfl⟩ := h
  rw [its_length] at hi
  exact at_no R i hi

theorem Set_yes (h : Rg w b a c l) (i : Nat) (x : Int) (hi : i < l.length) :
    Calls Try.prog 26 #[.pointer (some ⟨b, 0, none⟩), .int .i64 i, .int .i64 x] w fun e w' => e = .returned (.bool true) ∧ Rg w' b a c (l.set i x) ∧ Fr (fun k => k = b ∨ k = a) w w' := by
  obtain ⟨f, n, ys, R, rfl⟩ := h
  rw [its_length] at hi
  refine (set_yes R i x hi).mono fun e w' ⟨he, R', F⟩ => ⟨he, ⟨f, n, _, R', ?_⟩, F⟩
  rw [← R.len, its_set E.z x ys f n i hi (by have := R.num; have := R.len; omega)]

theorem Set_no (h : Rg w b a c l) (i : Int) (x : Int) (hi : i < 0 ∨ (l.length : Int) ≤ i) :
    Calls Try.prog 26 #[.pointer (some ⟨b, 0, none⟩), .int .i64 i, .int .i64 x] w fun e w' => e = .returned (.bool false) ∧ Fr (fun _ => False) w w' := by
  obtain ⟨f, n, ys, R, rfl⟩ := h
  rw [its_length] at hi
  exact (set_no R i x hi).mono fun e w' ⟨he, hw⟩ => ⟨he, by subst hw; exact Fr.refl _ _⟩

theorem All (h : Rg w b a c l) : Calls Try.prog 16 #[.pointer (some ⟨b, 0, none⟩)] w (AllPost w l) := by
  obtain ⟨f, n, ys, R, rfl⟩ := h
  exact all_any R
end
end RInt

end Go.Proofs.Ytdgbmjpiicpnlaa
