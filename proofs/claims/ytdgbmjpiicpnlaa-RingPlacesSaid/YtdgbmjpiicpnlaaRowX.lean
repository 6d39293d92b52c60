/- How a row's arguments are opened. -/
import Derived.Test.YtdgbmjpiicpnlaaChecked
import Derived.ProofKit
import Derived.Deep.Slices
import Derived.OpenShut
import Derived.Test.YtdgbmjpiicpnlaaBase
namespace Go.Proofs.Ytdgbmjpiicpnlaa
open Go.RowKit
set_option linter.unusedVariables false
set_option linter.unusedSimpArgs false

open Go.ChangeShapes Go.WideShapes
/-- A slice that came in, opened: its elements, each as its opener says. -/
theorem open_row {H : Type} {enc : TypeId × Value → H} {P : Program} {W : World} {base : Nat} {spare : Nat → Bool} {held : Bool} {α : Type} (E : El α) (ok : α → Prop) {t e : TypeId} {A : Option Addr} {len cap : Nat} {d : DataW H} {ps : List MemPlace}
    (ht : P.underlying t = some (.slice e)) (hc : P.cellsOf e = E.sz) (hel : ∀ n cs x, DataW.trod enc P W base spare held n e cs = some x → ∃ y, cs = E.enc y ∧ ok y)
    (h : DataW.Trod enc P W base spare held t (.slice A len cap) d ps) : ∃ xs, Reads E W A len xs ∧ (∀ y, y ∈ xs → ok y) ∧ len ≤ cap ∧ cap ≤ maxLen := by
  obtain ⟨fuel, hf⟩ := h
  rcases Deep.open_slice ht hf with ⟨hcs, _⟩ | ⟨a, l, c, m, n, D, Pl, hcs, hb, hl, hm, hmm, _, hx⟩
  · simp [Value.cells] at hcs
    obtain ⟨rfl, rfl, rfl⟩ := hcs
    exact ⟨[], ⟨rfl, .inl rfl⟩, fun y hy => by simp at hy, Nat.le_refl _, Nat.zero_le _⟩
  · simp [Value.cells] at hcs
    obtain ⟨rfl, rfl, rfl⟩ := hcs
    have hlm : len ≤ m := by rw [hmm]; split <;> omega
    haveI : Inhabited α := ⟨E.z⟩
    obtain ⟨Y, hY⟩ := Deep.choose_lt (α := α) (n := len) (p := fun i y => W.cells? base (a.add (i * P.cellsOf e)) (P.cellsOf e) = some (E.enc y) ∧ ok y) (fun i hi => by
      obtain ⟨cs', h1, h2⟩ := hx i (by omega)
      obtain ⟨y, rfl, hy⟩ := hel _ _ _ h2
      exact ⟨y, h1, hy⟩)
    refine ⟨(List.range len).map Y, ⟨by simp, .inr ⟨a, rfl, fun q j hq hj => ?_⟩⟩, fun y hy => ?_, hl, hm⟩
    · obtain ⟨h1, _⟩ := hY q hq
      obtain ⟨_, h2, h3⟩ := World.cells?_some h1
      have hz : ((List.range len).map Y).getD q E.z = Y q := by simp [List.getD_eq_getElem?_getD, hq]
      have h4 := h3 j (by rw [hc]; exact hj)
      rw [Deep.add_add, hc] at h4
      rw [hz]; exact h4
    · obtain ⟨i, hi, rfl⟩ := List.mem_map.1 hy
      exact (hY i (by simpa using hi)).2

section
variable {H : Type} {enc : TypeId × Value → H} {P : Program} {W : World} {base : Nat} {spare : Nat → Bool} {held : Bool} {n : Nat} {e : TypeId} {cs : List Value} {x : DataW H × List MemPlace}
theorem op_int {k : IntKind} (he : P.underlying e = some (.int k)) (h : DataW.trod enc P W base spare held n e cs = some x) : ∃ y : Int, cs = [.int k y] ∧ (Lit.int k y).wf = true := by
  obtain ⟨y, h1, _, h2⟩ := DataW.trod_int he h
  exact ⟨y, h1, h2⟩
theorem op_bool (he : P.underlying e = some .bool) (h : DataW.trod enc P W base spare held n e cs = some x) : ∃ y : Bool, cs = [.bool y] ∧ True := by
  obtain ⟨y, h1, _⟩ := DataW.trod_bool he h
  exact ⟨y, h1, trivial⟩
theorem op_string (he : P.underlying e = some .string) (h : DataW.trod enc P W base spare held n e cs = some x) : ∃ y : ByteArray, cs = [.string y] ∧ y.size ≤ maxLen := by
  obtain ⟨y, h1, _, h2⟩ := DataW.trod_string he h
  exact ⟨y, h1, h2⟩
end

end Go.Proofs.Ytdgbmjpiicpnlaa
