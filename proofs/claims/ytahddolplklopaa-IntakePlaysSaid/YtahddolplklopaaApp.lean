/- App. -/
import Derived.Test.YtahddolplklopaaChecked
import Derived.WalkKit
import Derived.Laws.IdiomCopy
import Derived.Deep.QuietTactic
import Derived.BigQuiet
import Derived.Lib.Hide
import Derived.OpenShut
import Derived.StillTailTactics
import Derived.Deep.RegionWith
import Derived.Deep.RegionLaw
import Derived.Deep.Slices
import Derived.Deep.RegionHeld3
import Derived.OwnWalk
import Derived.Test.YtahddolplklopaaBase
namespace Go.Proofs.Ytahddolplklopaa
open Go.RowKit
set_option linter.unusedVariables false
set_option linter.unusedSimpArgs false

/-! ### append onto a slice of the call's own, as one step of a region that draws its order -/
theorem step_append_one {P : Program} {ops : Array Oper} {o : Oper} {a : Act} {w : World} {K : Act → World → Prop} {Q : Exit → Act → World → Prop} {X : Prop} {α : Type} (E : El α) (te : TypeId)
    (hg : o.guard = none) (s x : Operand) (t : TypeId) (hop : o.op = Op.call { callee := Callee.builtin Builtin.append, args := #[s, x], argTypes := #[t, t] })
    (i : TypeInfo) (z : Value) (bytes : Nat) (h1 : P.underlying t = some (.slice te)) (h2 : P.info? te = some i) (h3 : i.zero = some z) (h4 : i.size = E.sz) (h5 : i.bytes = bytes) (h6 : z.cells.size = E.sz)
    (base : Nat) (v : Value) (l : List α) (hs : a.eval s = v) (hown : Own E te w base v l)
    (ad : Addr) (c : Nat) (y : α) (hx : a.eval x = .slice (some ad) 1 c) (hnews : ∀ j u, (E.enc y)[j]? = some u → w.cell? (ad.add j) = some u) (h1c : ∀ u ∈ E.enc y, u.oneCell' = true)
    (b1 : l.length + 1 ≤ maxLen) (b2 : (l.length + 1) * bytes ≤ 140737488355328) (hbase : base ≤ w.heap.size)
    (hK : ∀ A' c' w', Own E te w' base (.slice A' (l.length + 1) c') (l ++ [y]) → w.grownBy w' v.ownBlock → K (a.put o.dst (.slice A' (l.length + 1) c')) w') :
    if Region.wanted o (yielded ops a.tmps) = true then Oper.wp P o a w K Q else X := by
  have hw : Region.wanted o (yielded ops a.tmps) = true := by simp [Region.wanted, hg]
  rw [if_pos hw]
  obtain ⟨v', w', hrun, r1, r2, _⟩ := run_append_own (P := P) w base t o.type te i z E.sz bytes h1 h2 h3 h4 h5 h6 E.pos v l.length (l.flatMap E.enc) hown ad 1 c (E.enc y) (by rw [E.len, Nat.one_mul]) hnews h1c b1 b2 hbase
  have ho : Own E te w' base v' (l ++ [y]) := by unfold Own; rw [List.length_append, List.flatMap_append]; simpa using r1
  obtain ⟨A', c', hv, _⟩ := ho.reads
  rw [List.length_append, List.length_singleton] at hv
  subst hv
  unfold Oper.wp
  simp [execOp, hop, resolve, invoke, builtin, hs, hx, hrun, Result.andThen]
  exact hK A' c' w' ho r2
theorem Own.drew {α : Type} {E : El α} {te : TypeId} {w : World} {base : Nat} {v : Value} {l : List α} (h : Own E te w base v l) : Own E te w.drew base v l := h.drewN 1
theorem run_rows {P : Program} {α : Type} (E : El α) (te : TypeId) (w : World) (t ty : TypeId) (i : TypeInfo) (z : Value) (bytes : Nat) (ht : P.underlying t = some (.slice te)) (hi : P.info? te = some i) (hz : i.zero = some z)
    (hsize : i.size = E.sz) (hby : i.bytes = bytes) (hzs : z.cells.size = E.sz) (base : Nat) (v : Value) (l : List α) (hown : Own E te w base v l)
    (A : Option Addr) (m c : Nat) (ys : List α) (hr : Reads E w A m ys) (h1 : ∀ y ∈ ys, ∀ u ∈ E.enc y, u.oneCell' = true)
    (h63 : l.length + m ≤ maxLen) (hbytes : (l.length + m) * bytes ≤ 140737488355328) (hbase : base ≤ w.heap.size) :
    ∃ v' w', (Builtin.append_ #[t, t] ty #[v, .slice A m c]).run P w = .ok v' w' ∧ Own E te w' base v' (l ++ ys) ∧ w.grownBy w' v.ownBlock := by
  have hlen : (ys.flatMap E.enc).length = m * E.sz := by rw [E.flat_len, hr.1]
  cases A with
  | none =>
    have hm : m = 0 := by
      rcases hr.2 with h | ⟨ad, h, _⟩
      · exact h
      · cases h
    subst hm
    obtain rfl : ys = [] := List.eq_nil_of_length_eq_zero hr.1
    refine ⟨v, w, ?_, by rw [List.append_nil]; exact hown, World.grownBy.refl w _⟩
    rcases hown.2 with ⟨rfl, h0⟩ | ⟨g, cap, cur, rfl, _, _, hnc, _⟩
    · simp [Builtin.append_, run_underlying ht, sizeOf, typeInfo, hi, Builtin.lenOf, Builtin.firstCells]
    · simp [Builtin.append_, run_underlying ht, sizeOf, typeInfo, hi, Builtin.lenOf, Builtin.firstCells, hnc, storeCells]
  | some ad =>
    have hcells : ∀ j u, (ys.flatMap E.enc)[j]? = some u → w.cell? (ad.add j) = some u := by
      intro j u hu
      have hj : j < m * E.sz := by
        rw [← hlen]
        exact (List.getElem?_eq_some_iff.1 hu).1
      rcases hr.2 with h0 | ⟨ad', hA, hc⟩
      · subst h0; omega
      · cases hA
        have hd := Nat.div_add_mod j E.sz
        have hm := Nat.mod_lt j E.pos
        have hdl : j / E.sz < m := (Nat.div_lt_iff_lt_mul E.pos).2 hj
        have := hc _ _ hdl hm
        rw [show j / E.sz * E.sz + j % E.sz = j from by rw [Nat.mul_comm]; exact hd] at this
        rw [this, ← hu, ← E.flat_get ys _ _ (by rw [hr.1]; exact hdl) hm, show j / E.sz * E.sz + j % E.sz = j from by rw [Nat.mul_comm]; exact hd]
    obtain ⟨v', w', hrun, r1, r2, _⟩ := run_append_own (P := P) w base t ty te i z E.sz bytes ht hi hz hsize hby hzs E.pos v l.length (l.flatMap E.enc) hown ad m c (ys.flatMap E.enc) hlen hcells
      (fun u hu => by obtain ⟨y, hy, hu'⟩ := List.mem_flatMap.1 hu; exact h1 y hy u hu') h63 hbytes hbase
    refine ⟨v', w', hrun, ?_, r2⟩
    unfold Own
    rw [List.length_append, List.flatMap_append, hr.1]; exact r1
theorem append_rows {P : Program} {α : Type} (E : El α) (te : TypeId) {w : World} {ops : Array Oper} {rest : List Oper} {o : Oper} {a : Act} {Q : Exit → Act → World → Prop} (hgd : o.guard = none) (s x : Operand) (t : TypeId)
    (ho : o.op = .call { callee := .builtin .append, args := #[s, x], argTypes := #[t, t] })
    (i : TypeInfo) (z : Value) (bytes : Nat) (ht : P.underlying t = some (.slice te)) (hi : P.info? te = some i) (hz : i.zero = some z)
    (hsize : i.size = E.sz) (hby : i.bytes = bytes) (hzs : z.cells.size = E.sz)
    (base : Nat) (v : Value) (l : List α) (hs : a.eval s = v) (hown : Own E te w base v l)
    (A : Option Addr) (m c : Nat) (ys : List α) (hx : a.eval x = .slice A m c) (hr : Reads E w A m ys) (h1 : ∀ y ∈ ys, ∀ u ∈ E.enc y, u.oneCell' = true)
    (h63 : l.length + m ≤ maxLen) (hbytes : (l.length + m) * bytes ≤ 140737488355328) (hbase : base ≤ w.heap.size)
    (h : ∀ v' w', Own E te w' base v' (l ++ ys) → w.grownBy w' v.ownBlock → wpList P ops Q rest (a.put o.dst v') w') : wpList P ops Q (o :: rest) a w := by
  refine wpList_plain hgd fun K hK => ?_
  obtain ⟨v', w', hrun, h2, h3⟩ := run_rows (P := P) E te w t o.type i z bytes ht hi hz hsize hby hzs base v l hown A m c ys hr h1 h63 hbytes hbase
  unfold Oper.wp execOp
  simp only [ho, resolve, invoke, builtin, Sem.run_bind, Sem.run_pure, Result.andThen_ok, List.map_toArray, List.map_cons, List.map_nil, hs, hx, hrun]
  exact hK _ _ (h v' w' h2 h3)
theorem own_cap {α : Type} {E : El α} {te : TypeId} {w : World} {base n c : Nat} {A : Option Addr} {l : List α} (h : Own E te w base (.slice A n c) l) : n ≤ c := by
  rcases h.2 with ⟨h1, _⟩ | ⟨g, cap, cur, h1, _, _, h4, _⟩
  · cases h1; exact Nat.le_refl _
  · cases h1; exact h4

end Go.Proofs.Ytahddolplklopaa
