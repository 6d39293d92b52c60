/- Bk0. -/
import Derived.Test.YtahddolplklopaaChecked
import Derived.WalkKit
import Derived.Laws.IdiomCopy
import Derived.Deep.QuietTactic
import Derived.BigQuiet
import Derived.Lib.Hide
import Derived.OpenShut
import Derived.StillTailTactics
import Derived.Deep.RegionWith
import Derived.Deep.RegionLaw
import Derived.Deep.Slices
import Derived.Deep.RegionHeld3
import Derived.OwnWalk
import Derived.Test.YtahddolplklopaaBase
import Derived.Test.YtahddolplklopaaCalm
import Derived.Test.YtahddolplklopaaCalmT
import Derived.Test.YtahddolplklopaaCel
import Derived.Test.YtahddolplklopaaApp
import Derived.Test.YtahddolplklopaaRE
import Derived.Test.YtahddolplklopaaREB
import Derived.Test.YtahddolplklopaaREC
import Derived.Test.YtahddolplklopaaREA
import Derived.Test.YtahddolplklopaaBq
import Derived.Test.YtahddolplklopaaBp
import Derived.Test.YtahddolplklopaaBx
import Derived.Test.YtahddolplklopaaBr
namespace Go.Proofs.Ytahddolplklopaa
open Go.RowKit
set_option linter.unusedVariables false
set_option linter.unusedSimpArgs false

theorem Fr.grownS {S : Nat → Prop} {a w w' : World} {row : Option Nat} (h : Fr S a w) (hg : w.grownBy w' row) (hr : ∀ k, row = some k → S k) : Fr S a w' :=
  ⟨hg.os.trans h.os, hg.tape.trans h.tape, hg.output.trans h.output, Nat.le_trans h.size hg.size, fun i hi hn =>
    (hg.block i (Nat.lt_of_lt_of_le hi h.size) (fun e => hn (hr i e.symm))).trans (h.block i hi hn)⟩

theorem Reads.cut {α : Type} {E : El α} {w : World} {A : Option Addr} {n c k : Nat} {xs : List α} (h : Reads E w A n xs) (hk : k ≤ n) (hc : n ≤ c) : Reads E w (cutA A c k E.sz) (n - k) (xs.drop k) := by
  unfold cutA
  refine ⟨by rw [List.length_drop, h.1], ?_⟩
  by_cases e : n - k = 0
  · exact .inl e
  · obtain ⟨ad, rfl, _⟩ := h.some_of (by omega)
    refine .inr ⟨ad.add (k * E.sz), by rw [if_neg (by omega)]; rfl, fun q j hq hj => ?_⟩
    rcases h.2 with h0 | ⟨ad', hA, hcell⟩
    · omega
    · cases hA
      have := hcell (k + q) j (by omega) hj
      rw [Deep.add_add, show k * E.sz + (q * E.sz + j) = (k + q) * E.sz + j from by rw [Nat.add_mul]; omega, this]
      congr 2
      simp [List.getD_eq_getElem?_getD, List.getElem?_drop]

/-! ### Words for handbellref02.Take -/
theorem Reads.pre {α : Type} {E : El α} {w : World} {A : Option Addr} {n k : Nat} {xs : List α} (h : Reads E w A n xs) (hk : k ≤ n) : Reads E w A k (xs.take k) := by
  refine ⟨by rw [List.length_take, h.1]; omega, ?_⟩
  by_cases e : k = 0
  · exact .inl e
  · rcases h.2 with h0 | ⟨ad, hA, hc⟩
    · omega
    · refine .inr ⟨ad, hA, fun q j hq hj => ?_⟩
      rw [hc q j (by omega) hj]
      congr 2
      simp [List.getD_eq_getElem?_getD, List.getElem?_take, hq]
theorem run_pre {P : Program} (t e : TypeId) {i : TypeInfo} (ht : P.underlying t = some (.slice e)) (hi : P.info? e = some i) (A : Option Addr) (n cap k : Nat) (x : Int) (hx : x = (k : Int)) (hk : k ≤ cap) (W : World) :
    (Instr.slice t (.slice A n cap) none (some (.int .i64 x)) none).run P W = .ok (.slice A k cap) W := by
  subst hx
  have he : P.elem t = e := by simp [Program.elem, ht]
  rw [run_slice_h W t A n cap (by rw [he]; exact ht) .i64 (k : Int) (by omega) (by omega), he]
  simp [sizeOf, typeInfo, hi, sliced, Result.andThen]
  intro _
  cases A with
  | none => rfl
  | some ad =>
    simp [Addr.add]
theorem step_append_rows {P : Program} {ops : Array Oper} {o : Oper} {a : Act} {w : World} {K : Act → World → Prop} {Q : Exit → Act → World → Prop} {X : Prop} {α : Type} (E : El α) (te : TypeId)
    (hg : o.guard = none) (s x : Operand) (t : TypeId) (hop : o.op = Op.call { callee := Callee.builtin Builtin.append, args := #[s, x], argTypes := #[t, t] })
    (i : TypeInfo) (z : Value) (bytes : Nat) (h1 : P.underlying t = some (.slice te)) (h2 : P.info? te = some i) (h3 : i.zero = some z) (h4 : i.size = E.sz) (h5 : i.bytes = bytes) (h6 : z.cells.size = E.sz)
    (base : Nat) (v : Value) (l : List α) (hs : a.eval s = v) (hown : Own E te w base v l)
    (A : Option Addr) (m c : Nat) (ys : List α) (hx : a.eval x = .slice A m c) (hr : Reads E w A m ys) (h1c : ∀ y ∈ ys, ∀ u ∈ E.enc y, u.oneCell' = true)
    (b1 : l.length + m ≤ maxLen) (b2 : (l.length + m) * bytes ≤ 140737488355328) (hbase : base ≤ w.heap.size)
    (hK : ∀ A' c' w', Own E te w' base (.slice A' (l.length + m) c') (l ++ ys) → w.grownBy w' v.ownBlock → K (a.put o.dst (.slice A' (l.length + m) c')) w') :
    if Region.wanted o (yielded ops a.tmps) = true then Oper.wp P o a w K Q else X := by
  have hw : Region.wanted o (yielded ops a.tmps) = true := by simp [Region.wanted, hg]
  rw [if_pos hw]
  obtain ⟨v', w', hrun, r1, r2⟩ := run_rows (P := P) E te w t o.type i z bytes h1 h2 h3 h4 h5 h6 base v l hown A m c ys hr h1c b1 b2 hbase
  obtain ⟨A', c', hv, _⟩ := r1.reads
  rw [List.length_append, hr.1] at hv
  subst hv
  unfold Oper.wp
  simp [execOp, hop, resolve, invoke, builtin, hs, hx, hrun, Result.andThen]
  exact hK A' c' w' r1 r2
section
variable {P : Program} {fn : Func} {R : Ending → World → Prop} {tmps : Array Value} {w : World} {p q : Tmp} {ty ty' : TypeId} {g g' : Nat} {cs cs' : Array Value} {d d' : TypeDesc}
theorem ret_cctt {u u' : Tmp} {v v' : Value} (h : fn.results = #[.cell p ty, .cell q ty', .tmp u, .tmp u']) (hp : tmps.getD p undef = .pointer (some ⟨g, 0, none⟩)) (hq : tmps.getD q undef = .pointer (some ⟨g', 0, none⟩)) (hv : tmps.getD u undef = v) (hv2 : tmps.getD u' undef = v')
    (hg : w.heap[g]? = some (.cells cs ty (0, 0))) (hg' : w.heap[g']? = some (.cells cs' ty' (0, 0)))
    (hu : P.underlying ty = some d) (hd : (match d with | .struct _ | .array _ _ => true | _ => false) = true) (hi : (P.info? ty).map (·.size) = some cs.size)
    (hu' : P.underlying ty' = some d') (hd' : (match d' with | .struct _ | .array _ _ => true | _ => false) = true) (hi' : (P.info? ty').map (·.size) = some cs'.size)
    (hR : R (.returned (.tuple #[.agg cs, .agg cs', v, v'])) w) : bodyPost P fn R .ret { tmps := tmps, defers := [] } w := by
  have hp' : tmps[p]?.getD undef = .pointer (some ⟨g, 0, none⟩) := by simpa using hp
  have hq' : tmps[q]?.getD undef = .pointer (some ⟨g', 0, none⟩) := by simpa using hq
  have hv' : tmps[u]?.getD undef = v := by simpa using hv
  have hv2' : tmps[u']?.getD undef = v' := by simpa using hv2
  refine bodyPost_ret (v := .tuple #[.agg cs, .agg cs', v, v']) ?_ rfl hR
  simp [results, h, hp', hq', hv', hv2', asAddr, run_loadVar_row w g ty ty cs (0, 0) d hg hu hd hi, run_loadVar_row w g' ty' ty' cs' (0, 0) d' hg' hu' hd' hi']
end
/-- The first of the highest among the first k. -/
def Bst (ms : List It) (k b : Nat) : Prop := b < k ∧ ∀ i, i < k → (ms.getD i EIt.z).1 ≤ (ms.getD b EIt.z).1 ∧ (i < b → (ms.getD i EIt.z).1 < (ms.getD b EIt.z).1)
theorem Bst.new {ms : List It} {k b : Nat} (h : Bst ms k b) (hlt : (ms.getD b EIt.z).1 < (ms.getD k EIt.z).1) : Bst ms (k + 1) k := by
  refine ⟨by omega, fun i hi => ?_⟩
  by_cases e : i = k
  · subst e; exact ⟨Int.le_refl _, fun h => by omega⟩
  · have := (h.2 i (by omega)).1
    exact ⟨by omega, fun _ => by omega⟩
theorem Bst.old {ms : List It} {k b : Nat} (h : Bst ms k b) (hge : ¬ (ms.getD b EIt.z).1 < (ms.getD k EIt.z).1) : Bst ms (k + 1) b := by
  refine ⟨by have := h.1; omega, fun i hi => ?_⟩
  by_cases e : i = k
  · subst e; exact ⟨by omega, fun hh => by have := h.1; omega⟩
  · exact h.2 i (by omega)
theorem Bst.one (ms : List It) : Bst ms 1 0 := ⟨by omega, fun i hi => by
  obtain rfl : i = 0 := by omega
  exact ⟨Int.le_refl _, fun h => by omega⟩⟩
/-- What is taken is the head of the highest band; the others stay as they are. -/
theorem bnd_take {ms : List It} {b : Nat} (h : Bst ms ms.length b) : bnd (ms.getD b EIt.z).1 ms = (ms.getD b EIt.z).2 :: bnd (ms.getD b EIt.z).1 (ms.take b ++ ms.drop (b + 1)) ∧
    (∀ p, p ≠ (ms.getD b EIt.z).1 → bnd p (ms.take b ++ ms.drop (b + 1)) = bnd p ms) ∧ ∀ p, (ms.getD b EIt.z).1 < p → bnd p ms = [] := by
  have hsplit : ms = ms.take b ++ (ms.getD b EIt.z :: ms.drop (b + 1)) := by
    have h1 : b < ms.length := h.1
    rw [List.getD_eq_getElem?_getD, List.getElem?_eq_getElem h1]
    simp only [Option.getD_some]
    rw [← List.drop_eq_getElem_cons h1, List.take_append_drop]
  obtain ⟨y, hy⟩ : ∃ y, ms.getD b EIt.z = y := ⟨_, rfl⟩
  have hlow : bnd y.1 (ms.take b) = [] := by
    unfold bnd
    rw [List.map_eq_nil_iff, List.filter_eq_nil_iff]
    intro z hz
    obtain ⟨i, hi, rfl⟩ := List.getElem_of_mem hz
    rw [List.length_take] at hi
    have h2 := (h.2 i (by omega)).2 (by omega)
    rw [hy, List.getD_eq_getElem?_getD, List.getElem?_eq_getElem (by omega)] at h2
    simp only [Option.getD_some] at h2
    simp only [List.getElem_take, decide_eq_true_eq]
    omega
  rw [hy] at hsplit ⊢
  refine ⟨?_, fun p hp => ?_, fun p hp => ?_⟩
  · rw [bnd_app, hlow, List.nil_append]
    conv => lhs; rw [hsplit, bnd_app, hlow, List.nil_append]
    rw [show (y :: ms.drop (b + 1)) = [y] ++ ms.drop (b + 1) from rfl, bnd_app, bnd_one, if_pos rfl]; rfl
  · rw [bnd_app]
    conv => rhs; rw [hsplit, bnd_app, show (y :: ms.drop (b + 1)) = [y] ++ ms.drop (b + 1) from rfl, bnd_app, bnd_one, if_neg (fun e => hp e.symm), List.nil_append]
  · unfold bnd
    rw [List.map_eq_nil_iff, List.filter_eq_nil_iff]
    intro z hz
    obtain ⟨i, hi, rfl⟩ := List.getElem_of_mem hz
    have h2 := (h.2 i hi).1
    rw [hy, List.getD_eq_getElem?_getD, List.getElem?_eq_getElem hi] at h2
    simp only [Option.getD_some] at h2
    simp only [decide_eq_true_eq]
    omega
theorem step_append_nil {P : Program} {ops : Array Oper} {o : Oper} {a : Act} {w : World} {K : Act → World → Prop} {Q : Exit → Act → World → Prop} {X : Prop} {α : Type} (E : El α) (te : TypeId)
    (hg : o.guard = none) (s x : Operand) (t : TypeId) (hop : o.op = Op.call { callee := Callee.builtin Builtin.append, args := #[s, x], argTypes := #[t, t] })
    (i : TypeInfo) (z : Value) (bytes : Nat) (h1 : P.underlying t = some (.slice te)) (h2 : P.info? te = some i) (h3 : i.zero = some z) (h4 : i.size = E.sz) (h5 : i.bytes = bytes) (h6 : z.cells.size = E.sz)
    (base : Nat) (hs : a.eval s = .slice none 0 0)
    (A : Option Addr) (m c : Nat) (ys : List α) (hx : a.eval x = .slice A m c) (hr : Reads E w A m ys) (h1c : ∀ y ∈ ys, ∀ u ∈ E.enc y, u.oneCell' = true)
    (b1 : m ≤ maxLen) (b2 : m * bytes ≤ 140737488355328) (hbase : base ≤ w.heap.size)
    (hK : ∀ A' c' w', Own E te w' base (.slice A' m c') ys → w.grownBy w' none → K (a.put o.dst (.slice A' m c')) w') :
    if Region.wanted o (yielded ops a.tmps) = true then Oper.wp P o a w K Q else X :=
  step_append_rows E te hg s x t hop i z bytes h1 h2 h3 h4 h5 h6 base (.slice none 0 0) [] hs (Own.nil _ _ _ _) A m c ys hx hr h1c (by simpa using b1) (by simpa using b2) hbase (fun A' c' w' ho hgr => by
    have e : ([] : List α).length + m = m := Nat.zero_add m
    rw [e] at ho ⊢
    exact hK A' c' w' ho hgr)
theorem step_append_rows_n {P : Program} {ops : Array Oper} {o : Oper} {a : Act} {w : World} {K : Act → World → Prop} {Q : Exit → Act → World → Prop} {X : Prop} {α : Type} (E : El α) (te : TypeId)
    (hg : o.guard = none) (s x : Operand) (t : TypeId) (hop : o.op = Op.call { callee := Callee.builtin Builtin.append, args := #[s, x], argTypes := #[t, t] })
    (i : TypeInfo) (z : Value) (bytes : Nat) (h1 : P.underlying t = some (.slice te)) (h2 : P.info? te = some i) (h3 : i.zero = some z) (h4 : i.size = E.sz) (h5 : i.bytes = bytes) (h6 : z.cells.size = E.sz)
    (base : Nat) (v : Value) (l : List α) (hs : a.eval s = v) (hown : Own E te w base v l)
    (A : Option Addr) (m c : Nat) (ys : List α) (hx : a.eval x = .slice A m c) (hr : Reads E w A m ys) (h1c : ∀ y ∈ ys, ∀ u ∈ E.enc y, u.oneCell' = true)
    {n : Nat} (hn : l.length + m = n) (b1 : n ≤ maxLen) (b2 : n * bytes ≤ 140737488355328) (hbase : base ≤ w.heap.size)
    (hK : ∀ A' c' w', Own E te w' base (.slice A' n c') (l ++ ys) → w.grownBy w' v.ownBlock → K (a.put o.dst (.slice A' n c')) w') :
    if Region.wanted o (yielded ops a.tmps) = true then Oper.wp P o a w K Q else X := by
  subst hn
  exact step_append_rows E te hg s x t hop i z bytes h1 h2 h3 h4 h5 h6 base v l hs hown A m c ys hx hr h1c b1 b2 hbase hK

end Go.Proofs.Ytahddolplklopaa
