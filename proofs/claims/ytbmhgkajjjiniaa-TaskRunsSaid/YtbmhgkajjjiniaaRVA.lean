/- RVA. -/
import Derived.Test.YtbmhgkajjjiniaaChecked
import Derived.WalkKit
import Derived.Laws.IdiomCopy
import Derived.Deep.QuietTactic
import Derived.BigQuiet
import Derived.Lib.Hide
import Derived.OpenShut
import Derived.StillTailTactics
import Derived.Deep.RegionWith
import Derived.Deep.RegionLaw
import Derived.Deep.Slices
import Derived.Deep.RegionHeld3
import Derived.OwnWalk
import Derived.Test.YtbmhgkajjjiniaaBase
import Derived.Test.YtbmhgkajjjiniaaCalm
import Derived.Test.YtbmhgkajjjiniaaCalmT
import Derived.Test.YtbmhgkajjjiniaaCel
import Derived.Test.YtbmhgkajjjiniaaRV
import Derived.Test.YtbmhgkajjjiniaaRVB
import Derived.Test.YtbmhgkajjjiniaaRVC
namespace Go.Proofs.Ytbmhgkajjjiniaa
open Go.RowKit
set_option linter.unusedVariables false
set_option linter.unusedSimpArgs false

namespace RV
/-- A ring at block b, its room at block a: for c, and what is there, in order. -/
def Rg (w : World) (b a c : Nat) (l : List (Int × Int)) : Prop := ∃ f n ys, Rw w b a c f n ys ∧ l = its E.z ys f n

section
variable {w w' : World} {b a c : Nat} {l : List (Int × Int)}
theorem Rg.le (h : Rg w b a c l) : l.length ≤ c := by
  obtain ⟨f, n, ys, R, rfl⟩ := h
  rw [its_length]; exact R.num
theorem Rg.cap (h : Rg w b a c l) : c ≤ 1024 := by
  obtain ⟨f, n, ys, R, rfl⟩ := h
  exact R.cap
theorem Rg.lb (h : Rg w b a c l) : b < w.heap.size := by obtain ⟨f, n, ys, R, rfl⟩ := h; exact R.lb
theorem Rg.la (h : Rg w b a c l) : a < w.heap.size := by obtain ⟨f, n, ys, R, rfl⟩ := h; exact R.la
theorem Rg.ne (h : Rg w b a c l) : a ≠ b := by obtain ⟨f, n, ys, R, rfl⟩ := h; exact R.ne
theorem Rg.fr {S : Nat → Prop} (h : Rg w b a c l) (hf : Fr S w w') (hb : ¬ S b) (ha : ¬ S a) : Rg w' b a c l := by
  obtain ⟨f, n, ys, R, rfl⟩ := h
  exact ⟨f, n, ys, R.fr hf hb ha, rfl⟩
theorem Rg.alloc (h : Rg w b a c l) (o : Obj) : Rg (w.alloc o) b a c l := by
  obtain ⟨f, n, ys, R, rfl⟩ := h
  exact ⟨f, n, ys, R.alloc o, rfl⟩
theorem Rg.drewN (h : Rg w b a c l) (m : Nat) : Rg (w.drewN m) b a c l := by
  obtain ⟨f, n, ys, R, rfl⟩ := h
  exact ⟨f, n, ys, R.drewN m, rfl⟩
theorem Rg.drew (h : Rg w b a c l) : Rg w.drew b a c l := h.drewN 1
theorem Rg.far (h : Rg w b a c l) {p : Addr} (hb : b ≠ p.block) (ha : a ≠ p.block) (u : Value) : Rg (w.setCell p u) b a c l := by
  obtain ⟨f, n, ys, R, rfl⟩ := h
  exact ⟨f, n, ys, R.far hb ha u, rfl⟩

theorem New (w : World) (n : Int) :
    Calls Try.prog 19 #[.int .i64 n] w fun e w' => ∃ b a, e = .returned (.pointer (some ⟨b, 0, none⟩)) ∧ Rg w' b a (room n) [] ∧ Fr (fun _ => False) w w' ∧ w.heap.size ≤ b ∧ w.heap.size ≤ a :=
  (new_any w n).mono fun e w' ⟨b, a, he, R, r⟩ => ⟨b, a, he, ⟨0, 0, _, R, rfl⟩, r⟩

theorem Len (h : Rg w b a c l) : Calls Try.prog 40 #[.pointer (some ⟨b, 0, none⟩)] w fun e w' => e = .returned (.int .i64 l.length) ∧ w = w' := by
  obtain ⟨f, n, ys, R, rfl⟩ := h
  rw [its_length]; exact len_any R
theorem Cap (h : Rg w b a c l) : Calls Try.prog 37 #[.pointer (some ⟨b, 0, none⟩)] w fun e w' => e = .returned (.int .i64 c) ∧ w = w' := by
  obtain ⟨f, n, ys, R, rfl⟩ := h
  exact cap_any R
theorem Push_yes (h : Rg w b a c l) (x0 : Int) (x1 : Int) (hl : l.length < c) :
    Calls Try.prog 36 #[.pointer (some ⟨b, 0, none⟩), .agg #[.int .i64 x0, .int .i64 x1]] w fun e w' => e = .returned (.bool true) ∧ Rg w' b a c (l ++ [(x0, x1)]) ∧ Fr (fun k => k = b ∨ k = a) w w' := by
  obtain ⟨f, n, ys, R, rfl⟩ := h
  rw [its_length] at hl
  refine (push_room R x0 x1 hl).mono fun e w' ⟨he, R', F⟩ => ⟨he, ⟨f, n + 1, _, R', ?_⟩, F⟩
  rw [← R.len, its_push E.z (x0, x1) ys f n (by rw [R.len]; exact hl)]
theorem Push_no (h : Rg w b a c l) (x0 : Int) (x1 : Int) (hl : l.length = c) :
    Calls Try.prog 36 #[.pointer (some ⟨b, 0, none⟩), .agg #[.int .i64 x0, .int .i64 x1]] w fun e w' => e = .returned (.bool false) ∧ Fr (fun _ => False) w w' := by
  obtain ⟨f, n, ys, R, rfl⟩ := h
  rw [its_length] at hl
  exact push_full R x0 x1 hl
theorem Pop_yes {x0 x1} (h : Rg w b a c ((x0, x1) :: l)) :
    Calls Try.prog 38 #[.pointer (some ⟨b, 0, none⟩)] w fun e w' => e = .returned (.tuple #[.agg #[.int .i64 x0, .int .i64 x1], .bool true]) ∧ Rg w' b a c l ∧ Fr (fun k => k = b ∨ k = a) w w' := by
  obtain ⟨f, n, ys, R, hl⟩ := h
  have hn : n = l.length + 1 := by have := congrArg List.length hl; rw [its_length] at this; simpa using this.symm
  subst hn
  have hnc := R.num
  have hf : f < ys.length := by have := R.fst; have := R.len; omega
  rw [its_head E.z ys f l.length hf] at hl
  obtain ⟨h1, h2⟩ := List.cons.inj hl
  refine (pop_yes R (by omega) h1.symm).mono fun e w' ⟨he, R', F⟩ => ⟨he, ⟨_, l.length, _, R', ?_⟩, F⟩
  rw [← R.len, its_pop E.z E.z ys f l.length hf (by have := R.len; omega)]
  exact h2
theorem Pop_no (h : Rg w b a c []) :
    Calls Try.prog 38 #[.pointer (some ⟨b, 0, none⟩)] w fun e w' => e = .returned (.tuple #[.agg #[.int .i64 0, .int .i64 0], .bool false]) ∧ Fr (fun _ => False) w w' := by
  obtain ⟨f, n, ys, R, hl⟩ := h
  have hn : n = 0 := by have := congrArg List.length hl; rw [its_length] at this; simpa using this.symm
  exact pop_no R hn
theorem Force_room (h : Rg w b a c l) (x0 : Int) (x1 : Int) (hl : l.length < c) :
    Calls Try.prog 21 #[.pointer (some ⟨b, 0, none⟩), .agg #[.int .i64 x0, .int .i64 x1]] w fun e w' => e = .returned (.tuple #[.agg #[.int .i64 0, .int .i64 0], .bool false]) ∧ Rg w' b a c (l ++ [(x0, x1)]) ∧ Fr (fun k => k = b ∨ k = a) w w' := by
  obtain ⟨f, n, ys, R, rfl⟩ := h
  rw [its_length] at hl
  refine (force_room R x0 x1 hl).mono fun e w' ⟨he, R', F⟩ => ⟨he, ⟨f, n + 1, _, R', ?_⟩, F⟩
  rw [← R.len, its_push E.z (x0, x1) ys f n (by rw [R.len]; exact hl)]
theorem Force_full {y0 y1} (h : Rg w b a c ((y0, y1) :: l)) (x0 : Int) (x1 : Int) (hl : l.length + 1 = c) :
    Calls Try.prog 21 #[.pointer (some ⟨b, 0, none⟩), .agg #[.int .i64 x0, .int .i64 x1]] w fun e w' => e = .returned (.tuple #[.agg #[.int .i64 y0, .int .i64 y1], .bool true]) ∧ Rg w' b a c (l ++ [(x0, x1)]) ∧ Fr (fun k => k = b ∨ k = a) w w' := by
  obtain ⟨f, n, ys, R, hl2⟩ := h
  have hn : n = c := by have := congrArg List.length hl2; rw [its_length] at this; simp at this; omega
  subst hn
  have hf : f < ys.length := by have := R.fst; have := R.len; omega
  have hlen := R.len
  obtain rfl : n = l.length + 1 := hl.symm
  rw [its_head E.z ys f l.length hf] at hl2
  obtain ⟨h1, h2⟩ := List.cons.inj hl2
  refine (force_full R x0 x1 rfl (by omega) h1.symm).mono fun e w' ⟨he, R', F⟩ => ⟨he, ⟨_, _, _, R', ?_⟩, F⟩
  have hp := its_pop E.z E.z ys f l.length hf (by omega)
  have h3 : (ys.set f E.z).length = l.length + 1 := by rw [List.length_set, hlen]
  have hq := its_push E.z (x0, x1) (ys.set f E.z) ((f + 1) % (l.length + 1)) l.length (by omega)
  rw [h3] at hq
  rw [hlen] at hp
  rw [show l.length + 1 - 1 = l.length from rfl, hq, hp, ← h2]
theorem Force_none (h : Rg w b a 0 l) (x0 : Int) (x1 : Int) :
    Calls Try.prog 21 #[.pointer (some ⟨b, 0, none⟩), .agg #[.int .i64 x0, .int .i64 x1]] w fun e w' => e = .returned (.tuple #[.agg #[.int .i64 x0, .int .i64 x1], .bool true]) ∧ Fr (fun _ => False) w w' := by
  obtain ⟨f, n, ys, R, rfl⟩ := h
  exact force_none R x0 x1 rfl
/-- The newest c of a list. -/
def last (c : Nat) (l : List (Int × Int)) : List (Int × Int) := l.drop (l.length - c)
theorem last_snoc (c : Nat) (l : List (Int × Int)) (x : Int × Int) : last c (last c l ++ [x]) = last c (l ++ [x]) := by
  unfold last
  by_cases h : l.length ≤ c
  · rw [show l.length - c = 0 from by omega, List.drop_zero]
  · rw [List.length_append, List.length_append, List.length_drop, List.length_singleton]
    rw [show l.length - (l.length - c) + 1 - c = 1 from by omega, show l.length + 1 - c = (l.length - c) + 1 from by omega]
    by_cases h0 : c = 0
    · subst h0; simp
    · rw [List.drop_append_of_le_length (by rw [List.length_drop]; omega), List.drop_append_of_le_length (by omega), List.drop_drop]
theorem last_len (c : Nat) (l : List (Int × Int)) : (last c l).length = min c l.length := by unfold last; rw [List.length_drop]; omega
/-- Force, whatever there is: of all that was forced the newest stay. -/
theorem Force_last {l : List (Int × Int)} (h : Rg w b a c (last c l)) (x0 : Int) (x1 : Int) :
    Calls Try.prog 21 #[.pointer (some ⟨b, 0, none⟩), .agg #[.int .i64 x0, .int .i64 x1]] w fun e w' => (∃ v, e = .returned v) ∧ Rg w' b a c (last c (l ++ [(x0, x1)])) ∧ Fr (fun k => k = b ∨ k = a) w w' := by
  by_cases hl : (last c l).length < c
  · refine (Force_room h x0 x1 hl).mono fun e w' ⟨he, R, F⟩ => ⟨⟨_, he⟩, ?_, F⟩
    rw [← last_snoc]
    have e1 : last c (last c l ++ [(x0, x1)]) = last c l ++ [(x0, x1)] := by
      generalize last c l = m at hl ⊢
      unfold last; rw [List.length_append, List.length_singleton, show m.length + 1 - c = 0 from by omega, List.drop_zero]
    rw [e1]; exact R
  · by_cases h0 : c = 0
    · subst h0
      refine (Force_none h x0 x1).mono fun e w' ⟨he, F⟩ => ⟨⟨_, he⟩, ?_, F.mono (fun _ _ x => x.elim)⟩
      have e1 : ∀ m : List (Int × Int), last 0 m = [] := fun m => by unfold last; simp
      rw [e1] at h ⊢
      exact h.fr F (fun x => x) (fun x => x)
    · have hle := h.le
      rw [← last_snoc]
      generalize last c l = m at h hl hle ⊢
      cases m with
      | nil => simp at hl; omega
      | cons y m =>
        obtain ⟨y0, y1⟩ := y
        simp only [List.length_cons] at hl hle
        refine (Force_full h x0 x1 (by omega)).mono fun e w' ⟨he, R, F⟩ => ⟨⟨_, he⟩, ?_, F⟩
        have e1 : last c ((y0, y1) :: m ++ [(x0, x1)]) = m ++ [(x0, x1)] := by
          unfold last
          rw [show ((y0, y1) :: m ++ [(x0, x1)]).length - c = 1 from by simp; omega]; rfl
        rw [e1]; exact R
theorem At_yes (h : Rg w b a c l) (i : Nat) (hi : i < l.length) {y0 y1} (hy : l.getD i E.z = (y0, y1)) :
    Calls Try.prog 39 #[.pointer (some ⟨b, 0, none⟩), .int .i64 i] w fun e w' => e = .returned (.tuple #[.agg #[.int .i64 y0, .int .i64 y1], .bool true]) ∧ Fr (fun _ => False) w w' := by
  obtain ⟨f, n, ys, R, rfl⟩ := h
  rw [its_length] at hi
  rw [its_getD E.z ys f n i hi, R.len] at hy
  exact at_yes R i hi hy
theorem At_no (h : Rg w b a c l) (i : Int) (hi : i < 0 ∨ (l.length : Int) ≤ i) :
    Calls Try.prog 39 #[.pointer (some ⟨b, 0, none⟩), .int .i64 i] w fun e w' => e = .returned (.tuple #[.agg #[.int .i64 0, .int .i64 0], .bool false]) ∧ Fr (fun _ => False) w w' := by
  obtain ⟨f, n, ys, R, rfl⟩ := h
  rw [its_length] at hi
  exact at_no R i hi
theorem All (h : Rg w b a c l) : Calls Try.prog 49 #[.pointer (some ⟨b, 0, none⟩)] w (AllPost w l) := by
  obtain ⟨f, n, ys, R, rfl⟩ := h
  exact all_any R
end
end RV

end Go.Proofs.Ytbmhgkajjjiniaa
