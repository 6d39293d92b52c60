/- CpL. -/
import Derived.Test.YtbmhgkajjjiniaaChecked
import Derived.WalkKit
import Derived.Laws.IdiomCopy
import Derived.Deep.QuietTactic
import Derived.BigQuiet
import Derived.Lib.Hide
import Derived.OpenShut
import Derived.StillTailTactics
import Derived.Deep.RegionWith
import Derived.Deep.RegionLaw
import Derived.Deep.Slices
import Derived.Deep.RegionHeld3
import Derived.OwnWalk
import Derived.Test.YtbmhgkajjjiniaaBase
import Derived.Test.YtbmhgkajjjiniaaCalm
import Derived.Test.YtbmhgkajjjiniaaCalmT
import Derived.Test.YtbmhgkajjjiniaaCel
import Derived.Test.YtbmhgkajjjiniaaApp
import Derived.Test.YtbmhgkajjjiniaaClk
import Derived.Test.YtbmhgkajjjiniaaRV
import Derived.Test.YtbmhgkajjjiniaaRVB
import Derived.Test.YtbmhgkajjjiniaaRVC
import Derived.Test.YtbmhgkajjjiniaaRVA
import Derived.Test.YtbmhgkajjjiniaaCeS
import Derived.Test.YtbmhgkajjjiniaaCeF
import Derived.Test.YtbmhgkajjjiniaaCeG
import Derived.Test.YtbmhgkajjjiniaaCeN
import Derived.Test.YtbmhgkajjjiniaaCeX
import Derived.Test.YtbmhgkajjjiniaaClkR
import Derived.Test.YtbmhgkajjjiniaaSn
import Derived.Test.YtbmhgkajjjiniaaSn2
namespace Go.Proofs.Ytbmhgkajjjiniaa
open Go.RowKit
set_option linter.unusedVariables false
set_option linter.unusedSimpArgs false

/-! ### What is known of the samples that came -/
structure Inv (N : Nat) (ds : List Kd) (ms : List Sn) : Prop where
  at_ : ∀ i : Nat, i < N → ds.getD i dz = ((lt_ i ms).1, (lt_ i ms).2, (gd i ms).map va)
  in_ : ∀ y, y ∈ ms → 0 ≤ y.2.1 ∧ y.2.1 < (N : Int)
  tm : ∀ y, y ∈ ms → BigI y.1
theorem lsn_mem {k : Int} {l : List Sn} {y : Sn} (h : lsn k l = some y) : y ∈ l ∧ y.2.1 = k := by
  induction l with
  | nil => cases h
  | cons x l ih =>
    unfold lsn at h
    cases hl : lsn k l with
    | some z => rw [hl] at h; cases h; exact ⟨List.mem_cons_of_mem _ (ih hl).1, (ih hl).2⟩
    | none =>
      rw [hl] at h
      by_cases e : x.2.1 = k
      · simp only [e, if_true] at h; cases h; exact ⟨List.mem_cons_self, e⟩
      · simp only [e, if_false] at h; cases h
theorem Inv.big {N : Nat} {ds : List Kd} {ms : List Sn} (h : Inv N ds ms) (k : Int) : BigI (lt_ k ms).1 := by
  unfold lt_
  cases hl : lsn k ms with
  | some z => exact h.tm z (lsn_mem hl).1
  | none => show BigI 0; unfold BigI; omega
theorem Inv.out {N : Nat} {ds : List Kd} {ms : List Sn} (h : Inv N ds ms) {k : Int} (hk : k < 0 ∨ (N : Int) ≤ k) : lt_ k ms = (0, false) ∧ gd k ms = [] := by
  have hne : ∀ y, y ∈ ms → ¬ y.2.1 = k := fun y hy e => by have := h.in_ y hy; omega
  refine ⟨?_, ?_⟩
  · unfold lt_
    cases hl : lsn k ms with
    | some z => exact absurd (lsn_mem hl).2 (hne z (lsn_mem hl).1)
    | none => rfl
  · have : fs k ms = [] := by
      unfold fs; rw [List.filter_eq_nil_iff]; intro y hy; simp [hne y hy]
    unfold gd; rw [this]; rfl
theorem lt_app (k : Int) (l : List Sn) (y : Sn) : lt_ k (l ++ [y]) = if y.2.1 = k then (y.1, y.2.2.2.2) else lt_ k l := by
  unfold lt_; rw [lsn_app]; by_cases h : y.2.1 = k
  · rw [if_pos h, if_pos h]
  · rw [if_neg h, if_neg h]
theorem drop16 {α : Type} (l : List α) (y : α) : ((l.drop (l.length - 16)) ++ [y]).drop (((l.drop (l.length - 16)) ++ [y]).length - 16) = (l ++ [y]).drop ((l ++ [y]).length - 16) := by
  simp only [List.length_append, List.length_drop, List.length_singleton]
  by_cases h : l.length < 16
  · rw [show l.length - 16 = 0 from by omega, List.drop_zero]; rfl
  · rw [show l.length - (l.length - 16) + 1 - 16 = 1 from by omega, show l.length + 1 - 16 = (l.length - 16) + 1 from by omega]
    rw [List.drop_append_of_le_length (by rw [List.length_drop]; omega), List.drop_drop, List.drop_append_of_le_length (by omega)]
theorem gd_yes {k : Int} {l : List Sn} {y : Sn} (h1 : y.2.1 = k) (h2 : y.2.2.2.2 = false) : (gd k (l ++ [y])).map va = RV.last 16 ((gd k l).map va ++ [va y]) := by
  have e : fs k (l ++ [y]) = fs k l ++ [y] := by unfold fs; rw [List.filter_append]; congr 1; simp [h1, h2]
  unfold RV.last
  rw [show [va y] = [y].map va from rfl, ← List.map_append, ← List.map_drop, List.length_map]
  congr 1
  unfold gd
  rw [e]
  exact (drop16 (fs k l) y).symm
theorem gd_no {k : Int} {l : List Sn} {y : Sn} (h : ¬ y.2.1 = k ∨ y.2.2.2.2 = true) : gd k (l ++ [y]) = gd k l := by
  have e : fs k (l ++ [y]) = fs k l := by
    unfold fs; rw [List.filter_append]
    have : List.filter (fun y : Sn => decide (y.2.1 = k) && !y.2.2.2.2) [y] = [] := by
      rcases h with h | h <;> simp [h]
    rw [this, List.append_nil]
  unfold gd; rw [e]
theorem Inv.nil (N : Nat) : Inv N (List.replicate N dz) [] :=
  ⟨fun i hi => by simp [List.getD_eq_getElem?_getD, hi]; rfl, fun y h => by (cases h), fun y h => by (cases h)⟩
theorem Inv.put {N : Nat} {ds : List Kd} {ms : List Sn} (h : Inv N ds ms) (hN : ds.length = N) {i : Nat} (hi : i < N) {now : Int} (q v : Int) (bad : Bool) (hb : BigI now) :
    Inv N (ds.set i (pt (ds.getD i dz) now v bad)) (ms ++ [(now, (i : Int), q, v, bad)]) := by
  refine ⟨fun j hj => ?_, fun y hy => ?_, fun y hy => ?_⟩
  · by_cases e : i = j
    · subst e
      have hi2 : i < ds.length := by omega
      have h0 : (ds.set i (pt (ds.getD i dz) now v bad)).getD i dz = pt (ds.getD i dz) now v bad := by
        simp [List.getD_eq_getElem?_getD, hi2]
      rw [h0, h.at_ i hi, lt_app, if_pos rfl]
      unfold pt
      cases bad
      · simp only [Bool.false_eq_true, if_false]
        rw [gd_yes (k := (i : Int)) (y := (now, (i : Int), q, v, false)) rfl rfl]; rfl
      · simp only [if_true]
        rw [gd_no (k := (i : Int)) (y := (now, (i : Int), q, v, true)) (.inr rfl)]
    · have h0 : (ds.set i (pt (ds.getD i dz) now v bad)).getD j dz = ds.getD j dz := by
        simp [List.getD_eq_getElem?_getD, List.getElem?_set, e]
      have e2 : ¬ ((i : Nat) : Int) = ((j : Nat) : Int) := by omega
      rw [h0, h.at_ j hj, lt_app, if_neg e2, gd_no (k := ((j : Nat) : Int)) (y := (now, (i : Int), q, v, bad)) (.inl e2)]
  · rcases List.mem_append.1 hy with hy | hy
    · exact h.in_ y hy
    · rw [List.mem_singleton.1 hy]; simp only; omega
  · rcases List.mem_append.1 hy with hy | hy
    · exact h.tm y hy
    · rw [List.mem_singleton.1 hy]; exact hb
section
variable {w : World} {s g : Nat} {sh : List (Nat × Nat)} {ds : List Kd} {ms : List Sn}
theorem rng (sh : List (Nat × Nat)) (k : Int) : (∃ i : Nat, k = (i : Int) ∧ i < sh.length) ∨ (k < 0 ∨ (sh.length : Int) ≤ k) := by
  by_cases h : 0 ≤ k ∧ k < (sh.length : Int)
  · exact .inl ⟨k.toNat, by omega, by omega⟩
  · exact .inr (by omega)
theorem value_all (h : St w s g sh ds) (hI : Inv sh.length ds ms) (k : Int) {r : Int × Int × Bool} (hr : vl ((gd k ms).map va) = r) :
    Calls Try.prog 22 #[.pointer (some ⟨s, 0, none⟩), .int .i64 k] w (VPost w r) := by
  subst hr
  rcases rng sh k with ⟨i, rfl, hi⟩ | ho
  · exact value_x h rfl hi (by rw [hI.at_ i hi])
  · rw [(hI.out ho).2]; exact value_out h ho
theorem oldest_all (h : St w s g sh ds) (hI : Inv sh.length ds ms) (k f : Int) {r : Int × Bool} (hr : od f ((gd k ms).map va) = r) :
    Calls Try.prog 41 #[.pointer (some ⟨s, 0, none⟩), .int .i64 k, .int .i64 f] w (OPost w r) := by
  subst hr
  rcases rng sh k with ⟨i, rfl, hi⟩ | ho
  · exact oldest_x h rfl hi f (by rw [hI.at_ i hi])
  · rw [(hI.out ho).2]; exact oldest_out h ho f
end

section
variable {w : World} {s g : Nat} {sh : List (Nat × Nat)} {ds : List Kd} {ms : List Sn}
theorem quiet_all (h : St w s g sh ds) (hI : Inv sh.length ds ms) (k now : Int) (hn : BigI now) {r : Int} (hr : sn now (lt_ k ms).1 = r) :
    Calls Try.prog 27 #[.pointer (some ⟨s, 0, none⟩), .int .i64 k, .int .i64 now] w fun e w' => e = .returned (.int .i64 r) ∧ Fr (fun _ => False) w w' := by
  subst hr
  rcases rng sh k with ⟨i, rfl, hi⟩ | ho
  · exact quiet_x h rfl hi now hn (by rw [hI.at_ i hi]; exact hI.big i) (by rw [hI.at_ i hi])
  · rw [(hI.out ho).1]; exact quiet_out h ho now hn
theorem bad_all (h : St w s g sh ds) (hI : Inv sh.length ds ms) (k : Int) {r : Bool} (hr : (lt_ k ms).2 = r) :
    Calls Try.prog 23 #[.pointer (some ⟨s, 0, none⟩), .int .i64 k] w fun e w' => e = .returned (.bool r) ∧ Fr (fun _ => False) w w' := by
  subst hr
  rcases rng sh k with ⟨i, rfl, hi⟩ | ho
  · exact bad_x h rfl hi (by rw [hI.at_ i hi])
  · rw [(hI.out ho).1]; exact bad_out h ho
end
section
variable {w : World} {s g : Nat} {sh : List (Nat × Nat)} {ds : List Kd} {ms : List Sn}
theorem put_all (h : St w s g sh ds) (hI : Inv sh.length ds ms) (x now q v : Int) (bad : Bool) (hb : BigI now) {ok : Bool} (hok : decide (0 ≤ x ∧ x < (sh.length : Int)) = ok) :
    Calls Try.prog 12 #[.pointer (some ⟨s, 0, none⟩), .int .i64 now, .agg #[.int .i64 x, .int .u8 q, .int .i64 v, .bool bad]] w
      fun e w' => e = .returned (.bool ok) ∧ ∃ d, St w' s g sh d ∧ Inv sh.length d (if ok = true then ms ++ [(now, x, q, v, bad)] else ms) ∧ Fr (inSt s g sh) w w' := by
  subst hok
  rcases rng sh x with ⟨i, rfl, hi⟩ | ho
  · rw [decide_eq_true (show 0 ≤ (i : Int) ∧ (i : Int) < (sh.length : Int) by omega)]
    exact (put_x h rfl hi now q v bad).mono fun e w' ⟨h1, h2, h3⟩ => ⟨h1, _, h2, hI.put h.len hi q v bad hb, h3⟩
  · rw [decide_eq_false (show ¬ (0 ≤ x ∧ x < (sh.length : Int)) by omega)]
    exact (put_out h ho now q v bad).mono fun e w' ⟨h1, h2⟩ => ⟨h1, _, h.calm h2, hI, h2.mono (fun k _ hk => hk.elim)⟩
end

end Go.Proofs.Ytbmhgkajjjiniaa
