/- REA. -/
import Derived.Test.YtahddolplklopaaChecked
import Derived.WalkKit
import Derived.Laws.IdiomCopy
import Derived.Deep.QuietTactic
import Derived.BigQuiet
import Derived.Lib.Hide
import Derived.OpenShut
import Derived.StillTailTactics
import Derived.Deep.RegionWith
import Derived.Deep.RegionLaw
import Derived.Deep.Slices
import Derived.Deep.RegionHeld3
import Derived.OwnWalk
import Derived.Test.YtahddolplklopaaBase
import Derived.Test.YtahddolplklopaaCalm
import Derived.Test.YtahddolplklopaaCalmT
import Derived.Test.YtahddolplklopaaCel
import Derived.Test.YtahddolplklopaaRE
import Derived.Test.YtahddolplklopaaREB
import Derived.Test.YtahddolplklopaaREC
namespace Go.Proofs.Ytahddolplklopaa
open Go.RowKit
set_option linter.unusedVariables false
set_option linter.unusedSimpArgs false

namespace RE
/-- A ring at block b, its room at block a: for c, and what is there, in order. -/
def Rg (w : World) (b a c : Nat) (l : List (Int × Bool × Int)) : Prop := ∃ f n ys, Rw w b a c f n ys ∧ l = its E.z ys f n

section
variable {w w' : World} {b a c : Nat} {l : List (Int × Bool × Int)}
theorem Rg.le (h : Rg w b a c l) : l.length ≤ c := by
  obtain ⟨f, n, ys, R, rfl⟩ := h
  rw [its_length]; exact R.num
theorem Rg.cap (h : Rg w b a c l) : c ≤ 1024 := by
  obtain ⟨f, n, ys, R, rfl⟩ := h
  exact R.cap
theorem Rg.lb (h : Rg w b a c l) : b < w.heap.size := by obtain ⟨f, n, ys, R, rfl⟩ := h; exact R.lb
theorem Rg.la (h : Rg w b a c l) : a < w.heap.size := by obtain ⟨f, n, ys, R, rfl⟩ := h; exact R.la
theorem Rg.ne (h : Rg w b a c l) : a ≠ b := by obtain ⟨f, n, ys, R, rfl⟩ := h; exact R.ne
theorem Rg.fr {S : Nat → Prop} (h : Rg w b a c l) (hf : Fr S w w') (hb : ¬ S b) (ha : ¬ S a) : Rg w' b a c l := by
  obtain ⟨f, n, ys, R, rfl⟩ := h
  exact ⟨f, n, ys, R.fr hf hb ha, rfl⟩
theorem Rg.alloc (h : Rg w b a c l) (o : Obj) : Rg (w.alloc o) b a c l := by
  obtain ⟨f, n, ys, R, rfl⟩ := h
  exact ⟨f, n, ys, R.alloc o, rfl⟩
theorem Rg.drewN (h : Rg w b a c l) (m : Nat) : Rg (w.drewN m) b a c l := by
  obtain ⟨f, n, ys, R, rfl⟩ := h
  exact ⟨f, n, ys, R.drewN m, rfl⟩
theorem Rg.drew (h : Rg w b a c l) : Rg w.drew b a c l := h.drewN 1
theorem Rg.far (h : Rg w b a c l) {p : Addr} (hb : b ≠ p.block) (ha : a ≠ p.block) (u : Value) : Rg (w.setCell p u) b a c l := by
  obtain ⟨f, n, ys, R, rfl⟩ := h
  exact ⟨f, n, ys, R.far hb ha u, rfl⟩

theorem New (w : World) (n : Int) :
    Calls Try.prog 36 #[.int .i64 n] w fun e w' => ∃ b a, e = .returned (.pointer (some ⟨b, 0, none⟩)) ∧ Rg w' b a (room n) [] ∧ Fr (fun _ => False) w w' ∧ w.heap.size ≤ b ∧ w.heap.size ≤ a :=
  (new_any w n).mono fun e w' ⟨b, a, he, R, r⟩ => ⟨b, a, he, ⟨0, 0, _, R, rfl⟩, r⟩

theorem Len (h : Rg w b a c l) : Calls Try.prog 44 #[.pointer (some ⟨b, 0, none⟩)] w fun e w' => e = .returned (.int .i64 l.length) ∧ w = w' := by
  obtain ⟨f, n, ys, R, rfl⟩ := h
  rw [its_length]; exact len_any R
theorem Cap (h : Rg w b a c l) : Calls Try.prog 47 #[.pointer (some ⟨b, 0, none⟩)] w fun e w' => e = .returned (.int .i64 c) ∧ w = w' := by
  obtain ⟨f, n, ys, R, rfl⟩ := h
  exact cap_any R
theorem Push_yes (h : Rg w b a c l) (x0 : Int) (x1 : Bool) (x2 : Int) (hl : l.length < c) :
    Calls Try.prog 41 #[.pointer (some ⟨b, 0, none⟩), .agg #[.int .i64 x0, .bool x1, .int .i64 x2]] w fun e w' => e = .returned (.bool true) ∧ Rg w' b a c (l ++ [(x0, x1, x2)]) ∧ Fr (fun k => k = b ∨ k = a) w w' := by
  obtain ⟨f, n, ys, R, rfl⟩ := h
  rw [its_length] at hl
  refine (push_room R x0 x1 x2 hl).mono fun e w' ⟨he, R', F⟩ => ⟨he, ⟨f, n + 1, _, R', ?_⟩, F⟩
  rw [← R.len, its_push E.z (x0, x1, x2) ys f n (by rw [R.len]; exact hl)]
theorem Push_no (h : Rg w b a c l) (x0 : Int) (x1 : Bool) (x2 : Int) (hl : l.length = c) :
    Calls Try.prog 41 #[.pointer (some ⟨b, 0, none⟩), .agg #[.int .i64 x0, .bool x1, .int .i64 x2]] w fun e w' => e = .returned (.bool false) ∧ Fr (fun _ => False) w w' := by
  obtain ⟨f, n, ys, R, rfl⟩ := h
  rw [its_length] at hl
  exact push_full R x0 x1 x2 hl
theorem Pop_yes {x0 x1 x2} (h : Rg w b a c ((x0, x1, x2) :: l)) :
    Calls Try.prog 42 #[.pointer (some ⟨b, 0, none⟩)] w fun e w' => e = .returned (.tuple #[.agg #[.int .i64 x0, .bool x1, .int .i64 x2], .bool true]) ∧ Rg w' b a c l ∧ Fr (fun k => k = b ∨ k = a) w w' := by
  obtain ⟨f, n, ys, R, hl⟩ := h
  have hn : n = l.length + 1 := by have := congrArg List.length hl; rw [its_length] at this; simpa using this.symm
  subst hn
  have hnc := R.num
  have hf : f < ys.length := by have := R.fst; have := R.len; omega
  rw [its_head E.z ys f l.length hf] at hl
  obtain ⟨h1, h2⟩ := List.cons.inj hl
  refine (pop_yes R (by omega) h1.symm).mono fun e w' ⟨he, R', F⟩ => ⟨he, ⟨_, l.length, _, R', ?_⟩, F⟩
  rw [← R.len, its_pop E.z E.z ys f l.length hf (by have := R.len; omega)]
  exact h2
theorem Pop_no (h : Rg w b a c []) :
    Calls Try.prog 42 #[.pointer (some ⟨b, 0, none⟩)] w fun e w' => e = .returned (.tuple #[.agg #[.int .i64 0, .bool false, .int .i64 0], .bool false]) ∧ Fr (fun _ => False) w w' := by
  obtain ⟨f, n, ys, R, hl⟩ := h
  have hn : n = 0 := by have := congrArg List.length hl; rw [its_length] at this; simpa using this.symm
  exact pop_no R hn
theorem Set_yes (h : Rg w b a c l) (i : Nat) (x0 : Int) (x1 : Bool) (x2 : Int) (hi : i < l.length) :
    Calls Try.prog 40 #[.pointer (some ⟨b, 0, none⟩), .int .i64 i, .agg #[.int .i64 x0, .bool x1, .int .i64 x2]] w fun e w' => e = .returned (.bool true) ∧ Rg w' b a c (l.set i (x0, x1, x2)) ∧ Fr (fun k => k = b ∨ k = a) w w' := by
  obtain ⟨f, n, ys, R, rfl⟩ := h
  rw [its_length] at hi
  refine (set_yes R i x0 x1 x2 hi).mono fun e w' ⟨he, R', F⟩ => ⟨he, ⟨f, n, _, R', ?_⟩, F⟩
  rw [← R.len, its_set E.z (x0, x1, x2) ys f n i hi (by have := R.num; have := R.len; omega)]
theorem All (h : Rg w b a c l) : Calls Try.prog 39 #[.pointer (some ⟨b, 0, none⟩)] w (AllPost w l) := by
  obtain ⟨f, n, ys, R, rfl⟩ := h
  exact all_any R
end
end RE

end Go.Proofs.Ytahddolplklopaa
