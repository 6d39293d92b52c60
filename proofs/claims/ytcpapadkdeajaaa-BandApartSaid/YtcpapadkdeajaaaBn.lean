/- Bn. -/
import Derived.Test.YtcpapadkdeajaaaChecked
import Derived.WalkKit
import Derived.Laws.IdiomCopy
import Derived.Deep.QuietTactic
import Derived.BigQuiet
import Derived.Lib.Hide
import Derived.OpenShut
import Derived.StillTailTactics
import Derived.Deep.RegionWith
import Derived.Deep.RegionLaw
import Derived.Deep.Slices
import Derived.Deep.RegionHeld3
import Derived.OwnWalk
import Derived.Test.YtcpapadkdeajaaaBase
import Derived.Test.YtcpapadkdeajaaaCalm
import Derived.Test.YtcpapadkdeajaaaCalmT
import Derived.Test.YtcpapadkdeajaaaCel
import Derived.Test.YtcpapadkdeajaaaApp
import Derived.Test.YtcpapadkdeajaaaRE
import Derived.Test.YtcpapadkdeajaaaREB
import Derived.Test.YtcpapadkdeajaaaREC
import Derived.Test.YtcpapadkdeajaaaREA
import Derived.Test.YtcpapadkdeajaaaBq
import Derived.Test.YtcpapadkdeajaaaBp
import Derived.Test.YtcpapadkdeajaaaBx
namespace Go.Proofs.Ytcpapadkdeajaaa
open Go.RowKit
set_option linter.unusedVariables false
set_option linter.unusedSimpArgs false

/-! ### Events that are put once each -/
def EBy : El Int := ⟨fun x => [.int .u8 x], 1, fun _ => rfl, Nat.one_pos, 0⟩
theorem Reads.by_ {w : World} {b o n : Nat} {xs : List Int} (h : Reads EBy w (some ⟨b, o, none⟩) n xs) {k : Nat} (hk : k < n) : w.cell? ⟨b, o + k, none⟩ = some (.int .u8 (xs.getD k EBy.z)) := by
  have := h.cellj (j := 0) hk Nat.one_pos
  rw [show k * EBy.sz + 0 = k from by simp [EBy]] at this
  exact this
/-- All that is there is of the first n rules, each in its band, in order. -/
structure Onc (zs : List Int) (n : Nat) (o : Bool) (ls : Nat → List Ev) : Prop where
  of_ : ∀ i, i < 3 → ∀ y, y ∈ ls i → ∃ r : Nat, r < n ∧ y = ((r : Int), o, 0) ∧ (zs.getD r EBy.z) % 3 = (i : Int)
  inc : ∀ i, i < 3 → (ls i).Pairwise (fun a b => a.1 < b.1)
theorem Onc.nil (zs : List Int) (o : Bool) : Onc zs 0 o (fun _ => []) := ⟨fun i _ y hy => (by cases hy), fun i _ => List.Pairwise.nil⟩
theorem Onc.miss {zs : List Int} {n : Nat} {o : Bool} {ls : Nat → List Ev} (h : Onc zs n o ls) {i : Nat} (hi : i < 3) : fi (n : Int) (ls i) = (ls i).length := by
  refine fi_miss fun m hm e => ?_
  rw [List.getD_eq_getElem?_getD, List.getElem?_eq_getElem hm] at e
  obtain ⟨r, h1, h2, _⟩ := h.of_ i hi _ (List.getElem_mem hm)
  have h3 : (ls i)[m].1 = (n : Int) := e
  rw [h2] at h3
  simp only at h3
  omega
theorem Onc.put {zs : List Int} {n : Nat} {o : Bool} {ls : Nat → List Ev} (h : Onc zs n o ls) {i : Nat} (hi : i < 3) (hz : (zs.getD n EBy.z) % 3 = (i : Int)) : Onc zs (n + 1) o (upd ls i (ls i ++ [((n : Int), o, 0)])) := by
  refine ⟨fun j hj y hy => ?_, fun j hj => ?_⟩
  · by_cases e : j = i
    · subst e
      rw [upd_same] at hy
      rcases List.mem_append.1 hy with h1 | h1
      · obtain ⟨r, h2, h3, h4⟩ := h.of_ j hj y h1
        exact ⟨r, by omega, h3, h4⟩
      · rw [List.mem_singleton.1 h1]; exact ⟨n, by omega, rfl, hz⟩
    · rw [upd_ne _ e] at hy
      obtain ⟨r, h2, h3, h4⟩ := h.of_ j hj y hy
      exact ⟨r, by omega, h3, h4⟩
  · by_cases e : j = i
    · subst e
      rw [upd_same, List.pairwise_append]
      refine ⟨h.inc j hj, List.pairwise_singleton _ _, fun a ha b hb => ?_⟩
      rw [List.mem_singleton.1 hb]
      obtain ⟨r, h2, h3, _⟩ := h.of_ j hj a ha
      rw [h3]; simp only; omega
    · rw [upd_ne _ e]; exact h.inc j hj
theorem Onc.tail {zs : List Int} {n : Nat} {o : Bool} {ls : Nat → List Ev} (h : Onc zs n o ls) {i : Nat} (hi : i < 3) {x : Ev} {l : List Ev} (hl : ls i = x :: l) : Onc zs n o (upd ls i l) := by
  refine ⟨fun j hj y hy => ?_, fun j hj => ?_⟩
  · by_cases e : j = i
    · subst e; rw [upd_same] at hy
      exact h.of_ j hj y (by rw [hl]; exact List.mem_cons_of_mem _ hy)
    · rw [upd_ne _ e] at hy; exact h.of_ j hj y hy
  · by_cases e : j = i
    · subst e; rw [upd_same]
      have := h.inc j hj
      rw [hl] at this
      exact (List.pairwise_cons.1 this).2
    · rw [upd_ne _ e]; exact h.inc j hj
theorem Onc.puts {zs : List Int} {n : Nat} {o : Bool} {ls : Nat → List Ev} (h : Onc zs n o ls) {i : Nat} (hi : i < 3) {c : Nat} (hc : (ls i).length < c) : putB c (ls i) ((n : Int), o, 0) = (0, ls i ++ [((n : Int), o, 0)]) := by
  unfold putB
  rw [if_neg (by show ¬ fi (n : Int) (ls i) < _; rw [h.miss hi]; omega), if_pos hc]
theorem tot_le {ls : Nat → List Ev} {i : Nat} (hi : i < 3) : (ls i).length ≤ tot ls := by
  unfold tot
  rcases (by omega : i = 0 ∨ i = 1 ∨ i = 2) with rfl | rfl | rfl <;> omega
theorem tri_same (c i : Nat) : tri c c c i = c := by unfold tri; split <;> (try split) <;> rfl
theorem mod3 (z : Int) : ∃ i : Nat, i < 3 ∧ z % 3 = (i : Int) := ⟨(z % 3).toNat, by omega, by omega⟩

end Go.Proofs.Ytcpapadkdeajaaa
