/- A ring of string as a list: what each of its functions answers and leaves. -/
import Derived.Test.YtdgbmjpiicpnlaaChecked
import Derived.WalkKit
import Derived.Laws.IdiomCopy
import Derived.Deep.QuietTactic
import Derived.BigQuiet
import Derived.Lib.Hide
import Derived.Test.YtdgbmjpiicpnlaaBase
import Derived.Test.YtdgbmjpiicpnlaaRStr
import Derived.Test.YtdgbmjpiicpnlaaRStrB
import Derived.Test.YtdgbmjpiicpnlaaRStrC
namespace Go.Proofs.Ytdgbmjpiicpnlaa
open Go.RowKit
set_option linter.unusedVariables false
set_option linter.unusedSimpArgs false

namespace RStr
/-- A ring at block b, its room at block a: for c, and what is there, in order. -/
def Rg (w : World) (b a c : Nat) (l : List ByteArray) : Prop := ∃ f n ys, Rw w b a c f n ys ∧ l = its E.z ys f n

section
variable {w w' : World} {b a c : Nat} {l : List ByteArray}
theorem Rg.le (h : Rg w b a c l) : l.length ≤ c := by
  obtain ⟨f, n, ys, R, rfl⟩ := h
  rw [its_length]; exact R.num
theorem Rg.cap (h : Rg w b a c l) : c ≤ 1024 := by
  obtain ⟨f, n, ys, R, rfl⟩ := h
  exact R.cap
theorem Rg.lb (h : Rg w b a c l) : b < w.heap.size := by obtain ⟨f, n, ys, R, rfl⟩ := h; exact R.lb
theorem Rg.la (h : Rg w b a c l) : a < w.heap.size := by obtain ⟨f, n, ys, R, rfl⟩ := h; exact R.la
theorem Rg.ne (h : Rg w b a c l) : a ≠ b := by obtain ⟨f, n, ys, R, rfl⟩ := h; exact R.ne
theorem Rg.fr {S : Nat → Prop} (h : Rg w b a c l) (hf : Fr S w w') (hb : ¬ S b) (ha : ¬ S a) : Rg w' b a c l := by
  obtain ⟨f, n, ys, R, rfl⟩ := h
  exact ⟨f, n, ys, R.fr hf hb ha, rfl⟩
theorem Rg.alloc (h : Rg w b a c l) (o : Obj) : Rg (w.alloc o) b a c l := by
  obtain ⟨f, n, ys, R, rfl⟩ := h
  exact ⟨f, n, ys, R.alloc o, rfl⟩
theorem Rg.drewN (h : Rg w b a c l) (m : Nat) : Rg (w.drewN m) b a c l := by
  obtain ⟨f, n, ys, R, rfl⟩ := h
  exact ⟨f, n, ys, R.drewN m, rfl⟩
theorem Rg.drew (h : Rg w b a c l) : Rg w.drew b a c l := h.drewN 1
theorem Rg.far (h : Rg w b a c l) {p : Addr} (hb : b ≠ p.block) (ha : a ≠ p.block) (u : Value) : Rg (w.setCell p u) b a c l := by
  obtain ⟨f, n, ys, R, rfl⟩ := h
  exact ⟨f, n, ys, R.far hb ha u, rfl⟩

theorem New (w : World) (n : Int) :
    Calls Try.prog 17 #[.int .i64 n] w fun e w' => ∃ b a, e = .returned (.pointer (some ⟨b, 0, none⟩)) ∧ Rg w' b a (room n) [] ∧ Fr (fun _ => False) w w' ∧ w.heap.size ≤ b ∧ w.heap.size ≤ a :=
  (new_any w n).mono fun e w' ⟨b, a, he, R, r⟩ => ⟨b, a, he, ⟨0, 0, _, R, rfl⟩, r⟩

theorem Len (h : Rg w b a c l) : Calls Try.prog 18 #[.pointer (some ⟨b, 0, none⟩)] w fun e w' => e = .returned (.int .i64 l.length) ∧ w = w' := by
  obtain ⟨f, n, ys, R, rfl⟩ := h
  rw [its_length]; exact len_any R
theorem Cap (h : Rg w b a c l) : Calls Try.prog 19 #[.pointer (some ⟨b, 0, none⟩)] w fun e w' => e = .returned (.int .i64 c) ∧ w = w' := by
  obtain ⟨f, n, ys, R, rfl⟩ := h
  exact cap_any R
theorem Push_yes (h : Rg w b a c l) (x : ByteArray) (hl : l.length < c) :
    Calls Try.prog 20 #[.pointer (some ⟨b, 0, none⟩), .string x] w fun e w' => e = .returned (.bool true) ∧ Rg w' b a c (l ++ [x]) ∧ Fr (fun k => k = b ∨ k = a) w w' := by
  obtain ⟨f, n, ys, R, rfl⟩ := h
  rw [its_length] at hl
  refine (push_room R x hl).mono fun e w' ⟨he, R', F⟩ => ⟨he, ⟨f, n + 1, _, R', ?_⟩, F⟩
  rw [← R.len, its_push E.z x ys f n (by rw [R.len]; exact hl)]
theorem Push_no (h : Rg w b a c l) (x : ByteArray) (hl : l.length = c) :
    Calls Try.prog 20 #[.pointer (some ⟨b, 0, none⟩), .string x] w fun e w' => e = .returned (.bool false) ∧ Fr (fun _ => False) w w' := by
  obtain ⟨f, n, ys, R, rfl⟩ := h
  rw [its_length] at hl
  exact (push_full R x hl).mono fun e w' ⟨he, hw⟩ => ⟨he, by subst hw; exact Fr.refl _ _⟩









theorem All (h : Rg w b a c l) : Calls Try.prog 21 #[.pointer (some ⟨b, 0, none⟩)] w (AllPost w l) := by
  obtain ⟨f, n, ys, R, rfl⟩ := h
  exact all_any R
end
end RStr

end Go.Proofs.Ytdgbmjpiicpnlaa
