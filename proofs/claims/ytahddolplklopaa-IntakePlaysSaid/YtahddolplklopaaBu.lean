/- Bu. -/
import Derived.Test.YtahddolplklopaaChecked
import Derived.WalkKit
import Derived.Laws.IdiomCopy
import Derived.Deep.QuietTactic
import Derived.BigQuiet
import Derived.Lib.Hide
import Derived.OpenShut
import Derived.StillTailTactics
import Derived.Deep.RegionWith
import Derived.Deep.RegionLaw
import Derived.Deep.Slices
import Derived.Deep.RegionHeld3
import Derived.OwnWalk
import Derived.Test.YtahddolplklopaaBase
import Derived.Test.YtahddolplklopaaCalm
import Derived.Test.YtahddolplklopaaCalmT
import Derived.Test.YtahddolplklopaaCel
import Derived.Test.YtahddolplklopaaApp
import Derived.Test.YtahddolplklopaaRE
import Derived.Test.YtahddolplklopaaREB
import Derived.Test.YtahddolplklopaaREC
import Derived.Test.YtahddolplklopaaREA
import Derived.Test.YtahddolplklopaaBq
import Derived.Test.YtahddolplklopaaBp
import Derived.Test.YtahddolplklopaaBx
import Derived.Test.YtahddolplklopaaBr
import Derived.Test.YtahddolplklopaaBk0
import Derived.Test.YtahddolplklopaaBt
namespace Go.Proofs.Ytahddolplklopaa
open Go.RowKit
set_option linter.unusedVariables false
set_option linter.unusedSimpArgs false

/-! ### The document's queue and the bands -/
def Uq (l : List Ev) : Prop := l.Pairwise (fun a b => a.1 ≠ b.1)
theorem bnd_cons (p : Int) (y : It) (ms : List It) : bnd p (y :: ms) = (if y.1 = p then [y.2] else []) ++ bnd p ms := by
  rw [show y :: ms = [y] ++ ms from rfl, bnd_app, bnd_one]
theorem bnd_rep (p : Int) (x : Ev) : ∀ ms : List It, bnd p (ms.map (rep p x)) = (bnd p ms).map (fun y => if y.1 = x.1 then x else y)
  | [] => rfl
  | y :: ms => by
    rw [List.map_cons, bnd_cons, bnd_cons, bnd_rep p x ms, List.map_append]
    congr 1
    unfold rep
    by_cases h : y.1 = p
    · by_cases h2 : y.2.1 = x.1
      · simp [h, h2]
      · simp [h, h2]
    · simp [h]
theorem bnd_rep_ne {p q : Int} (hq : q ≠ p) (x : Ev) : ∀ ms : List It, bnd q (ms.map (rep p x)) = bnd q ms
  | [] => rfl
  | y :: ms => by
    rw [List.map_cons, bnd_cons, bnd_cons, bnd_rep_ne hq x ms]
    congr 1
    unfold rep
    by_cases h : y.1 = p ∧ y.2.1 = x.1
    · rw [if_pos h, if_neg (fun e => hq e.symm), if_neg (fun e => hq (by rw [← e]; exact h.1))]
    · rw [if_neg h]
theorem rep_set {x : Ev} : ∀ {l : List Ev}, Uq l → fi x.1 l < l.length → l.map (fun y => if y.1 = x.1 then x else y) = l.set (fi x.1 l) x
  | [], _, h => by simp at h
  | y :: l, hu, h => by
    have hc := List.pairwise_cons.1 hu
    unfold fi at h ⊢
    by_cases e : y.1 = x.1
    · rw [if_pos e, List.map_cons, if_pos e, List.set_cons_zero]
      congr 1
      have : l.map (fun y => if y.1 = x.1 then x else y) = l.map id := List.map_congr_left fun z hz => by
        rw [if_neg (fun h => hc.1 z hz (by rw [e, h]))]; rfl
      rw [this, List.map_id]
    · rw [if_neg e] at h ⊢
      rw [List.map_cons, if_neg e, List.set_cons_succ, rep_set hc.2 (by simp at h; exact h)]
theorem has_fi (p r : Int) : ∀ ms : List It, hasR p r ms = decide (fi r (bnd p ms) < (bnd p ms).length)
  | [] => rfl
  | y :: ms => by
    rw [show y :: ms = [y] ++ ms from rfl, hasR_app, bnd_app, bnd_one, has_fi p r ms]
    by_cases h : y.1 = p
    · rw [if_pos h]
      by_cases h2 : y.2.1 = r
      · simp [hasR, h, h2, fi]
      · simp [hasR, h, h2, fi]
    · rw [if_neg h]
      simp [hasR, h]
theorem Uq.set {l : List Ev} (h : Uq l) {x : Ev} (hf : fi x.1 l < l.length) : Uq (l.set (fi x.1 l) x) := by
  rw [← rep_set h hf]
  unfold Uq
  rw [List.pairwise_map]
  refine List.Pairwise.imp ?_ h
  intro a b hab
  by_cases e : a.1 = x.1
  · by_cases e2 : b.1 = x.1
    · exact absurd (e.trans e2.symm) hab
    · rw [if_pos e, if_neg e2]; exact fun h => e2 h.symm
  · by_cases e2 : b.1 = x.1
    · rw [if_neg e, if_pos e2]; exact e
    · rw [if_neg e, if_neg e2]; exact hab
theorem fi_not {r : Int} : ∀ {l : List Ev}, ¬ fi r l < l.length → ∀ y, y ∈ l → y.1 ≠ r
  | [], _, y, hy => by cases hy
  | z :: l, h, y, hy => by
    unfold fi at h
    by_cases e : z.1 = r
    · rw [if_pos e] at h; simp at h
    · rw [if_neg e] at h
      rcases List.mem_cons.1 hy with rfl | hy
      · exact e
      · exact fi_not (l := l) (by simp at h; omega) y hy
theorem Uq.app {l : List Ev} (h : Uq l) {x : Ev} (hf : ¬ fi x.1 l < l.length) : Uq (l ++ [x]) := by
  unfold Uq
  rw [List.pairwise_append]
  refine ⟨h, List.pairwise_singleton _ _, fun a ha b hb => ?_⟩
  rw [List.mem_singleton.1 hb]
  exact fi_not hf a ha
/-- A put, on both sides. -/
theorem put_match {ms : List It} {p : Int} (x : Ev) (c : Nat) (hu : Uq (bnd p ms)) : ∃ (code : Int) (ms' : List It), putR c ms p x = (code, ms') ∧ putB c (bnd p ms) x = (code, bnd p ms') ∧ (∀ q, q ≠ p → bnd q ms' = bnd q ms) ∧ Uq (bnd p ms') ∧ (∀ y, y ∈ ms' → y ∈ ms ∨ y.1 = p) ∧ ms'.length ≤ ms.length + 1 := by
  unfold putR putB
  rw [has_fi]
  by_cases hf : fi x.1 (bnd p ms) < (bnd p ms).length
  · refine ⟨0, ms.map (rep p x), ?_, ?_, fun q hq => bnd_rep_ne hq x ms, ?_, fun y hy => ?_, by rw [List.length_map]; omega⟩
    · simp only [decide_eq_true hf, if_true]
    · rw [if_pos hf, bnd_rep, rep_set hu hf]
    · rw [bnd_rep, rep_set hu hf]; exact hu.set hf
    · obtain ⟨z, hz, rfl⟩ := List.mem_map.1 hy
      unfold rep
      by_cases h : z.1 = p ∧ z.2.1 = x.1
      · rw [if_pos h]; exact .inr rfl
      · rw [if_neg h]; exact .inl hz
  · rw [if_neg hf]
    simp only [decide_eq_false hf, Bool.false_eq_true, if_false]
    by_cases hc : c ≤ (bnd p ms).length
    · rw [if_pos hc, if_neg (by omega)]
      exact ⟨6, ms, rfl, rfl, fun _ _ => rfl, hu, fun y hy => .inl hy, by omega⟩
    · rw [if_neg hc, if_pos (by omega)]
      refine ⟨0, ms ++ [(p, x)], rfl, ?_, fun q hq => ?_, ?_, fun y hy => ?_, by rw [List.length_append]; simp⟩
      · rw [bnd_app, bnd_one, if_pos rfl]
      · rw [bnd_app, bnd_one, if_neg (fun e => hq e.symm), List.append_nil]
      · rw [bnd_app, bnd_one, if_pos rfl]; exact hu.app hf
      · rcases List.mem_append.1 hy with h | h
        · exact .inl h
        · rw [List.mem_singleton.1 h]; exact .inr rfl

/-! ### Takes, and how many there are -/
theorem tot_bnd : ∀ ms : List It, (∀ y, y ∈ ms → 1 ≤ y.1 ∧ y.1 ≤ 3) → tot (fun i => bnd ((i : Int) + 1) ms) = ms.length
  | [], _ => rfl
  | y :: ms, h => by
    have ih := tot_bnd ms (fun z hz => h z (List.mem_cons_of_mem _ hz))
    have hy := h y List.mem_cons_self
    unfold tot at ih ⊢
    simp only [bnd_cons, List.length_append, List.length_cons] at ih ⊢
    rcases (by omega : y.1 = 1 ∨ y.1 = 2 ∨ y.1 = 3) with e | e | e <;> rw [e] <;> simp <;> simp at ih <;> omega
theorem take_match {ms : List It} {b : Nat} (hB : Bst ms ms.length b) (hrg : ∀ y, y ∈ ms → 1 ≤ y.1 ∧ y.1 ≤ 3) {i : Nat} (hi : i < 3) {x : Ev} {l : List Ev} (hl : bnd ((i : Int) + 1) ms = x :: l)
    (hab : ∀ m : Nat, i < m → m < 3 → bnd ((m : Int) + 1) ms = []) :
    (ms.getD b EIt.z).1 = (i : Int) + 1 ∧ (ms.getD b EIt.z).2 = x ∧ bnd ((i : Int) + 1) (ms.take b ++ ms.drop (b + 1)) = l ∧ ∀ q, q ≠ (i : Int) + 1 → bnd q (ms.take b ++ ms.drop (b + 1)) = bnd q ms := by
  obtain ⟨h1, h2, h3⟩ := bnd_take hB
  have hmem : ms.getD b EIt.z ∈ ms := by
    rw [List.getD_eq_getElem?_getD, List.getElem?_eq_getElem hB.1]; exact List.getElem_mem _
  have hr := hrg _ hmem
  obtain ⟨y, hy⟩ : ∃ y, ms.getD b EIt.z = y := ⟨_, rfl⟩
  rw [hy] at h1 h2 h3 hr ⊢
  have hp : y.1 = (i : Int) + 1 := by
    rcases Int.lt_trichotomy y.1 ((i : Int) + 1) with h | h | h
    · rw [h3 _ h] at hl; cases hl
    · exact h
    · have := hab (y.1 - 1).toNat (by omega) (by omega)
      rw [show (((y.1 - 1).toNat : Nat) : Int) + 1 = y.1 from by omega, h1] at this
      cases this
  rw [hp] at h1 h2
  rw [hl] at h1
  obtain ⟨e1, e2⟩ := List.cons.inj h1
  exact ⟨hp, e1.symm, e2.symm, h2⟩
theorem Uq.tail {x : Ev} {l : List Ev} (h : Uq (x :: l)) : Uq l := (List.pairwise_cons.1 h).2

end Go.Proofs.Ytahddolplklopaa
