/- CeS. -/
import Derived.Test.YtbmhgkajjjiniaaChecked
import Derived.WalkKit
import Derived.Laws.IdiomCopy
import Derived.Deep.QuietTactic
import Derived.BigQuiet
import Derived.Lib.Hide
import Derived.OpenShut
import Derived.StillTailTactics
import Derived.Deep.RegionWith
import Derived.Deep.RegionLaw
import Derived.Deep.Slices
import Derived.Deep.RegionHeld3
import Derived.OwnWalk
import Derived.Test.YtbmhgkajjjiniaaBase
import Derived.Test.YtbmhgkajjjiniaaCalm
import Derived.Test.YtbmhgkajjjiniaaCalmT
import Derived.Test.YtbmhgkajjjiniaaCel
import Derived.Test.YtbmhgkajjjiniaaApp
import Derived.Test.YtbmhgkajjjiniaaClk
import Derived.Test.YtbmhgkajjjiniaaRV
import Derived.Test.YtbmhgkajjjiniaaRVB
import Derived.Test.YtbmhgkajjjiniaaRVC
import Derived.Test.YtbmhgkajjjiniaaRVA
namespace Go.Proofs.Ytbmhgkajjjiniaa
open Go.RowKit
set_option linter.unusedVariables false
set_option linter.unusedSimpArgs false

/-! ### cell.Store as it lies -/
/-- What is known of a signal: when it was heard of, whether the last was bad, its values and when they came. -/
abbrev Kd := Int × Bool × List (Int × Int)
def dz : Kd := (0, false, [])
def EKn : El ((Nat × Nat) × Kd) := ⟨fun k => [.pointer (some ⟨k.1.1, 0, none⟩), .int .i64 k.2.1, .bool k.2.2.1], 3, fun _ => rfl, by omega, ((0, 0), dz)⟩
def sg (sh : List (Nat × Nat)) (i : Nat) : Nat × Nat := sh.getD i (0, 0)
structure St (w : World) (s g : Nat) (sh : List (Nat × Nat)) (ds : List Kd) : Prop where
  sb : w.heap[s]? = some (.cells #[.slice (some ⟨g, 0, none⟩) sh.length sh.length] 60 (0, 0))
  gb : w.heap[g]? = some (.cells (EKn.flat (sh.zip ds)) 66 (0, 0))
  len : ds.length = sh.length
  n8 : sh.length ≤ 8
  ring : ∀ i, i < sh.length → RV.Rg w (sg sh i).1 (sg sh i).2 16 (ds.getD i dz).2.2
  ne : s ≠ g
  n1 : ∀ i, i < sh.length → (sg sh i).1 ≠ s ∧ (sg sh i).1 ≠ g ∧ (sg sh i).2 ≠ s ∧ (sg sh i).2 ≠ g
  n2 : ∀ i j, i < sh.length → j < sh.length → i ≠ j → (sg sh i).1 ≠ (sg sh j).1 ∧ (sg sh i).1 ≠ (sg sh j).2 ∧ (sg sh i).2 ≠ (sg sh j).1 ∧ (sg sh i).2 ≠ (sg sh j).2
/-- The blocks of a store. -/
def inSt (s g : Nat) (sh : List (Nat × Nat)) (i : Nat) : Prop := i = s ∨ i = g ∨ ∃ j, j < sh.length ∧ (i = (sg sh j).1 ∨ i = (sg sh j).2)
theorem inSt.b {s g : Nat} {sh : List (Nat × Nat)} {j : Nat} (h : j < sh.length) : inSt s g sh (sg sh j).1 := .inr (.inr ⟨j, h, .inl rfl⟩)
theorem inSt.a {s g : Nat} {sh : List (Nat × Nat)} {j : Nat} (h : j < sh.length) : inSt s g sh (sg sh j).2 := .inr (.inr ⟨j, h, .inr rfl⟩)
section
variable {w w' : World} {s g : Nat} {sh : List (Nat × Nat)} {ds : List Kd}
theorem St.fr {S : Nat → Prop} (h : St w s g sh ds) (hf : Fr S w w') (hS : ∀ i, inSt s g sh i → ¬ S i) : St w' s g sh ds :=
  ⟨hf.at_ h.sb (hS _ (.inl rfl)), hf.at_ h.gb (hS _ (.inr (.inl rfl))), h.len, h.n8, fun i hi => (h.ring i hi).fr hf (hS _ (inSt.b hi)) (hS _ (inSt.a hi)), h.ne, h.n1, h.n2⟩
theorem St.calm (h : St w s g sh ds) (hf : Fr (fun _ => False) w w') : St w' s g sh ds := h.fr hf (fun _ _ x => x)
theorem zip_get (h : ds.length = sh.length) {i : Nat} (hi : i < sh.length) : (sh.zip ds).getD i EKn.z = (sg sh i, ds.getD i dz) := by
  have h1 : i < (sh.zip ds).length := by rw [List.length_zip]; omega
  have h2 : i < ds.length := by omega
  have h3 : (sh.zip ds)[i]? = some (sh[i], ds[i]) := by rw [List.getElem?_eq_getElem h1, List.getElem_zip]
  rw [List.getD_eq_getElem?_getD, h3]
  simp [sg, List.getD_eq_getElem?_getD, List.getElem?_eq_getElem hi, List.getElem?_eq_getElem h2]
theorem zip_set (h : ds.length = sh.length) {i : Nat} (hi : i < sh.length) (d : Kd) : (sh.zip ds).set i (sg sh i, d) = sh.zip (ds.set i d) := by
  apply List.ext_getElem?
  intro k
  rw [List.getElem?_set]
  by_cases e : i = k
  · subst e
    have h1 : i < (sh.zip ds).length := by rw [List.length_zip]; omega
    have h2 : i < ds.length := by omega
    rw [if_pos rfl, if_pos h1]
    simp [sg, List.getD_eq_getElem?_getD, hi, h2, List.zip, List.getElem?_zipWith]
  · rw [if_neg e]
    simp [List.zip, List.getElem?_zipWith, List.getElem?_set_ne e]
theorem St.cells (h : St w s g sh ds) {i : Nat} (hi : i < sh.length) {d : Kd} (hd : ds.getD i dz = d) :
    w.cell? ⟨g, i * 3, none⟩ = some (.pointer (some ⟨(sg sh i).1, 0, none⟩)) ∧ w.cell? ⟨g, i * 3 + 1, none⟩ = some (.int .i64 d.1) ∧ w.cell? ⟨g, i * 3 + 2, none⟩ = some (.bool d.2.1) := by
  subst hd
  have hz := zip_get h.len hi
  have hl : i < (sh.zip ds).length := by rw [List.length_zip]; have := h.len; omega
  refine ⟨?_, ?_, ?_⟩
  · rw [cell_of h.gb]; show ((sh.zip ds).flatMap EKn.enc).toArray[i * 3]? = _; rw [List.getElem?_toArray]; have := EKn.flat_get (sh.zip ds) i 0 hl (by decide); rw [hz] at this; exact this
  · rw [cell_of h.gb]; show ((sh.zip ds).flatMap EKn.enc).toArray[i * 3 + 1]? = _; rw [List.getElem?_toArray]; have := EKn.flat_get (sh.zip ds) i 1 hl (by decide); rw [hz] at this; exact this
  · rw [cell_of h.gb]; show ((sh.zip ds).flatMap EKn.enc).toArray[i * 3 + 2]? = _; rw [List.getElem?_toArray]; have := EKn.flat_get (sh.zip ds) i 2 hl (by decide); rw [hz] at this; exact this
theorem St.zg (h : St w s g sh ds) (i : Nat) : w.frozen? ⟨g, i, none⟩ = false := frozen_of h.gb i
theorem St.s0 (h : St w s g sh ds) : w.cell? ⟨s, 0, none⟩ = some (.slice (some ⟨g, 0, none⟩) sh.length sh.length) := by rw [cell_of h.sb]; rfl
theorem set_same {α : Type} {l : List α} {o : Nat} {v : α} (h : l[o]? = some v) : l.set o v = l := by
  apply List.ext_getElem?
  intro k
  rw [List.getElem?_set]
  by_cases e : o = k
  · subst e
    have := (List.getElem?_eq_some_iff.1 h).1
    rw [if_pos rfl, if_pos this, h]
  · rw [if_neg e]
/-- It is heard of. -/
theorem St.seen (h : St w s g sh ds) {i : Nat} (hi : i < sh.length) {d : Kd} (hd : ds.getD i dz = d) (now : Int) (bad : Bool) :
    St ((w.setCell ⟨g, i * 3 + 1, none⟩ (.int .i64 now)).setCell ⟨g, i * 3 + 2, none⟩ (.bool bad)) s g sh (ds.set i (now, bad, d.2.2)) := by
  have hl : i < (sh.zip ds).length := by rw [List.length_zip]; have := h.len; omega
  have F : Fr (fun k => k = g) w ((w.setCell ⟨g, i * 3 + 1, none⟩ (.int .i64 now)).setCell ⟨g, i * 3 + 2, none⟩ (.bool bad)) := ((Fr.refl (fun k => k = g) w).setCell (p := ⟨g, i * 3 + 1, none⟩) (fun _ => rfl) _).setCell (p := ⟨g, i * 3 + 2, none⟩) (fun _ => rfl) _
  refine ⟨F.at_ h.sb h.ne, ?_, by rw [List.length_set]; exact h.len, h.n8, fun j hj => ?_, h.ne, h.n1, h.n2⟩
  · have h1 := set_at (set_at h.gb (i * 3 + 1) (.int .i64 now)) (i * 3 + 2) (.bool bad)
    rw [h1]
    congr 2
    have hz := zip_get h.len hi
    have h0 : ((sh.zip ds).flatMap EKn.enc)[i * 3]? = some (.pointer (some ⟨(sg sh i).1, 0, none⟩)) := by have := EKn.flat_get (sh.zip ds) i 0 hl (by decide); rw [hz] at this; exact this
    have hf := EKn.flat_set (sh.zip ds) i (sg sh i, (now, bad, d.2.2)) hl
    rw [zip_set h.len hi] at hf
    unfold El.flat
    rw [← hf]
    show ((((sh.zip ds).flatMap EKn.enc).toArray.setIfInBounds (i * 3 + 1) (.int .i64 now)).setIfInBounds (i * 3 + 2) (.bool bad)) = (((((sh.zip ds).flatMap EKn.enc).set (i * 3) (.pointer (some ⟨(sg sh i).1, 0, none⟩))).set (i * 3 + 1) (.int .i64 now)).set (i * 3 + 1 + 1) (.bool bad)).toArray
    rw [set_same h0]
    simp
  · have hr := (h.ring j hj).fr F (fun e => (h.n1 j hj).2.1 e) (fun e => (h.n1 j hj).2.2.2 e)
    by_cases e : i = j
    · subst e
      rw [getD_set_same _ _ _ _ (by have := h.len; omega)]
      rw [hd] at hr; exact hr
    · rw [getD_set_ne _ _ _ _ _ e]; exact hr
/-- Its values are others. -/
theorem St.vals (h : St w s g sh ds) {i : Nat} (hi : i < sh.length) {d : Kd} (hd : ds.getD i dz = d) {l : List (Int × Int)} (hr : RV.Rg w' (sg sh i).1 (sg sh i).2 16 l) (hf : Fr (fun k => k = (sg sh i).1 ∨ k = (sg sh i).2) w w') :
    St w' s g sh (ds.set i (d.1, d.2.1, l)) := by
  have n1 := h.n1 i hi
  refine ⟨hf.at_ h.sb (by omega), ?_, by rw [List.length_set]; exact h.len, h.n8, fun j hj => ?_, h.ne, h.n1, h.n2⟩
  · rw [hf.at_ h.gb (by omega)]
    congr 2
    unfold El.flat
    congr 1
    have hl : i < (sh.zip ds).length := by rw [List.length_zip]; have := h.len; omega
    rw [← zip_set h.len hi (d.1, d.2.1, l), ← EKn.flat_set (sh.zip ds) i (sg sh i, (d.1, d.2.1, l)) hl]
    have hz := zip_get h.len hi
    rw [hd] at hz
    have g0 : ((sh.zip ds).flatMap EKn.enc)[i * 3]? = some (.pointer (some ⟨(sg sh i).1, 0, none⟩)) := by have := EKn.flat_get (sh.zip ds) i 0 hl (by decide); rw [hz] at this; exact this
    have g1 : ((sh.zip ds).flatMap EKn.enc)[i * 3 + 1]? = some (.int .i64 d.1) := by have := EKn.flat_get (sh.zip ds) i 1 hl (by decide); rw [hz] at this; exact this
    have g2 : ((sh.zip ds).flatMap EKn.enc)[i * 3 + 1 + 1]? = some (.bool d.2.1) := by have := EKn.flat_get (sh.zip ds) i 2 hl (by decide); rw [hz] at this; exact this
    show (sh.zip ds).flatMap EKn.enc = ((((sh.zip ds).flatMap EKn.enc).set (i * 3) (.pointer (some ⟨(sg sh i).1, 0, none⟩))).set (i * 3 + 1) (.int .i64 d.1)).set (i * 3 + 1 + 1) (.bool d.2.1)
    rw [set_same g0, set_same g1, set_same g2]
  · by_cases e : i = j
    · subst e
      rw [getD_set_same _ _ _ _ (by have := h.len; omega)]; exact hr
    · rw [getD_set_ne _ _ _ _ _ e]
      have n2 := h.n2 i j hi hj e
      exact (h.ring j hj).fr hf (by omega) (by omega)
end

end Go.Proofs.Ytbmhgkajjjiniaa
