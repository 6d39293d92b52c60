/- Bv. -/
import Derived.Test.YtahddolplklopaaChecked
import Derived.WalkKit
import Derived.Laws.IdiomCopy
import Derived.Deep.QuietTactic
import Derived.BigQuiet
import Derived.Lib.Hide
import Derived.OpenShut
import Derived.StillTailTactics
import Derived.Deep.RegionWith
import Derived.Deep.RegionLaw
import Derived.Deep.Slices
import Derived.Deep.RegionHeld3
import Derived.OwnWalk
import Derived.Test.YtahddolplklopaaBase
import Derived.Test.YtahddolplklopaaCalm
import Derived.Test.YtahddolplklopaaCalmT
import Derived.Test.YtahddolplklopaaCel
import Derived.Test.YtahddolplklopaaApp
import Derived.Test.YtahddolplklopaaRE
import Derived.Test.YtahddolplklopaaREB
import Derived.Test.YtahddolplklopaaREC
import Derived.Test.YtahddolplklopaaREA
import Derived.Test.YtahddolplklopaaBq
import Derived.Test.YtahddolplklopaaBp
import Derived.Test.YtahddolplklopaaBx
import Derived.Test.YtahddolplklopaaBr
import Derived.Test.YtahddolplklopaaBk0
import Derived.Test.YtahddolplklopaaBt
import Derived.Test.YtahddolplklopaaBk
import Derived.Test.YtahddolplklopaaBu
namespace Go.Proofs.Ytahddolplklopaa
open Go.RowKit
set_option linter.unusedVariables false
set_option linter.unusedSimpArgs false

/-! ### A put and a take, on both sides -/
abbrev Qm (w : World) (q : Nat) (qs : Nat → Nat × Nat) (r0 r1 r2 : Int) (ms : List It) : Prop := Qu w q qs (tri (RE.room r0) (RE.room r1) (RE.room r2)) (fun i => bnd ((i : Int) + 1) ms)
def GoodQ (ms : List It) : Prop := (∀ y, y ∈ ms → 1 ≤ y.1 ∧ y.1 ≤ 3) ∧ ∀ i : Nat, i < 3 → Uq (bnd ((i : Int) + 1) ms)
theorem GoodQ.nil : GoodQ [] := ⟨fun y hy => (by cases hy), fun i _ => List.Pairwise.nil⟩
theorem putR_code {c : Nat} {ms ms' : List It} {p code : Int} {x : Ev} (h : putR c ms p x = (code, ms')) (hc : code ≠ 0) : ms' = ms := by
  unfold putR at h
  split at h
  · cases h; exact absurd rfl hc
  · split at h
    · cases h; rfl
    · cases h; exact absurd rfl hc
theorem put_both {q : Nat} {qs : Nat → Nat × Nat} (wr : World) (r0 r1 r2 : Int) (A : Option Addr) (k B0 : Nat) (ms : List It) (y1 y2 : Int) (y3 : Bool) (y4 : Int) (hm : Reads EIt wr A ms.length ms) (hl : ms.length ≤ 900) (hk : ms.length ≤ k) (hA : ∀ ad, A = some ad → B0 ≤ ad.block) (hs : B0 ≤ wr.heap.size) (hg : GoodQ ms) :
    ∃ (c : Int) (ms' : List It), (∀ w', Fr (fun _ => False) wr w' → Calls Try.prog 33 #[.agg #[.int .i64 r0, .int .i64 r1, .int .i64 r2, .slice A ms.length k], .int .u8 y1, .agg #[.int .i64 y2, .bool y3, .int .i64 y4]] w' fun e w'' => ∃ A1 k1, e = .returned (.tuple #[.agg #[.int .i64 r0, .int .i64 r1, .int .i64 r2, .slice A1 ms'.length k1], .int .i64 c]) ∧ Reads EIt w'' A1 ms'.length ms' ∧ (∀ ad, A1 = some ad → B0 ≤ ad.block) ∧ (∀ ad, A1 = some ad → 0 < ms'.length → ad.block < wr.heap.size ∨ w'.heap.size ≤ ad.block) ∧ ms'.length ≤ k1 ∧ Fr (fun _ => False) w' w'') ∧
      (∀ w', Qm w' q qs r0 r1 r2 ms → Calls Try.prog 29 #[.pointer (some ⟨q, 0, none⟩), .int .u8 y1, .agg #[.int .i64 y2, .bool y3, .int .i64 y4]] w' fun e w'' => e = .returned (.int .i64 c) ∧ Qm w'' q qs r0 r1 r2 ms' ∧ Fr (inQ q qs) w' w'') ∧
      ms'.length ≤ ms.length + 1 ∧ GoodQ ms' ∧ (c ≠ 0 → ms' = ms) ∧ (1 ≤ y1 ∧ y1 ≤ 3 → ∀ i : Nat, i < 3 → y1 = (i : Int) + 1 → putR (RE.room (tri r0 r1 r2 i)) ms y1 (y2, y3, y4) = (c, ms')) := by
  by_cases hp : 1 ≤ y1 ∧ y1 ≤ 3
  · obtain ⟨i, hi, hpi⟩ : ∃ i : Nat, i < 3 ∧ y1 = (i : Int) + 1 := ⟨(y1 - 1).toNat, by omega, by omega⟩
    have hui := hg.2 i hi
    rw [← hpi] at hui
    obtain ⟨c, ms', h1, h2, h3, h4, h5, h6⟩ := put_match (y2, y3, y4) (RE.room (tri r0 r1 r2 i)) hui
    have htri : tri (RE.room r0) (RE.room r1) (RE.room r2) i = RE.room (tri r0 r1 r2 i) := by unfold tri; split <;> (try split) <;> rfl
    refine ⟨c, ms', fun w' h => ?_, fun w' hq => ?_, h6, ⟨fun y hy => ?_, fun m hm => ?_⟩, fun hc => putR_code h1 hc, fun _ i2 hi2 hp2 => ?_⟩
    · refine (rput w' r0 r1 r2 A ms.length k ms y1 y2 y3 y4 (hm.fr h (fun _ _ x => x)) (by omega) hk hi hpi h1).mono ?_
      rintro e w'' ⟨A1, k1, he, rd, hfresh, hk1, hf⟩
      exact ⟨A1, k1, he, rd, fun ad ha => by
        rcases hfresh ad ha with h7 | h7
        · have := h.size; omega
        · exact hA ad (by rw [← h7.1]; exact ha), fun ad ha h0 => by
        rcases hfresh ad ha with h7 | h7
        · exact .inr h7
        · obtain ⟨zb', zo', hA', hz'⟩ := hm.plain (by omega)
          rw [h7.1, hA'] at ha
          cases ha
          exact .inl hz', hk1, hf⟩
    · refine (qput_p hq hi hpi y2 y3 y4 (c' := c) (l' := bnd y1 ms') (by rw [htri]; show putB _ (bnd ((i : Int) + 1) ms) _ = _; rw [← hpi]; exact h2)).mono ?_
      rintro e w'' ⟨he, hq2, hf⟩
      refine ⟨he, ?_, hf⟩
      have hfun : upd (fun i : Nat => bnd ((i : Int) + 1) ms) i (bnd y1 ms') = (fun i : Nat => bnd ((i : Int) + 1) ms') := by
        funext m
        by_cases e : m = i
        · subst e; rw [upd_same, hpi]
        · rw [upd_ne _ e]; exact (h3 _ (by omega)).symm
      rw [hfun] at hq2; exact hq2
    · rcases h5 y hy with h7 | h7
      · exact hg.1 y h7
      · omega
    · by_cases e : (m : Int) + 1 = y1
      · rw [e]; exact h4
      · rw [h3 _ e]; exact hg.2 m hm
    · obtain rfl : i2 = i := by omega
      exact h1
  · have hp' : y1 < 1 ∨ 3 < y1 := by omega
    refine ⟨1, ms, fun w' h => ?_, fun w' hq => ?_, by omega, hg, fun _ => rfl, fun h => absurd h hp⟩
    · refine (rput_no w' r0 r1 r2 A ms.length k ms y1 y2 y3 y4 (hm.fr h (fun _ _ x => x)) hk hp').mono ?_
      rintro e w'' ⟨A1, k1, he, rd, hfresh, hk1, hf⟩
      exact ⟨A1, k1, he, rd, fun ad ha => by
        rcases hfresh ad ha with h7 | h7
        · have := h.size; omega
        · exact hA ad (by rw [← h7.1]; exact ha), fun ad ha h0 => by
        rcases hfresh ad ha with h7 | h7
        · exact .inr h7
        · obtain ⟨zb', zo', hA', hz'⟩ := hm.plain (by omega)
          rw [h7.1, hA'] at ha
          cases ha
          exact .inl hz', hk1, hf⟩
    · exact (qput_no hq hp' y2 y3 y4).mono fun e w'' ⟨h1, h2⟩ => ⟨h1, hq.calm h2, h2.mono (fun _ _ x => x.elim)⟩
/-- What both answer to a Take: the queue without the oldest of the highest. -/
def tkOut (ms : List It) (ms' : List It) (p x1 : Int) (x2 : Bool) (x3 : Int) (ok : Bool) : Prop :=
  (ms = [] ∧ ms' = [] ∧ p = 0 ∧ x1 = 0 ∧ x2 = false ∧ x3 = 0 ∧ ok = false) ∨ (ok = true ∧ ∃ b, Bst ms ms.length b ∧ ms.getD b EIt.z = (p, x1, x2, x3) ∧ ms' = ms.take b ++ ms.drop (b + 1))
theorem take_both {q : Nat} {qs : Nat → Nat × Nat} (wr : World) (r0 r1 r2 : Int) (A : Option Addr) (k B0 : Nat) (ms : List It) (hm : Reads EIt wr A ms.length ms) (hl : ms.length ≤ 900) (hk : ms.length ≤ k) (hA : ∀ ad, A = some ad → B0 ≤ ad.block) (hs : B0 ≤ wr.heap.size) (hg : GoodQ ms) :
    Calls Try.prog 32 #[.agg #[.int .i64 r0, .int .i64 r1, .int .i64 r2, .slice A ms.length k]] wr fun e w8 => ∃ (ms' : List It) (A1 : Option Addr) (n1 k1 : Nat) (p x1 : Int) (x2 : Bool) (x3 : Int) (ok : Bool),
      e = .returned (.tuple #[.agg #[.int .i64 r0, .int .i64 r1, .int .i64 r2, .slice A1 n1 k1], .agg #[.int .i64 x1, .bool x2, .int .i64 x3], .int .u8 p, .bool ok]) ∧ ms'.length = n1 ∧ Reads EIt w8 A1 n1 ms' ∧ (∀ ad, A1 = some ad → B0 ≤ ad.block) ∧ n1 ≤ k1 ∧ n1 ≤ ms.length ∧ tkOut ms ms' p x1 x2 x3 ok ∧
      (∀ w', Qm w' q qs r0 r1 r2 ms → Calls Try.prog 31 #[.pointer (some ⟨q, 0, none⟩)] w' fun e w'' => e = .returned (.tuple #[.agg #[.int .i64 x1, .bool x2, .int .i64 x3], .int .u8 p, .bool ok]) ∧ Qm w'' q qs r0 r1 r2 ms' ∧ Fr (inQ q qs) w' w'') ∧
      GoodQ ms' ∧ Fr (fun _ => False) wr w8 := by
  refine (rtake wr r0 r1 r2 A ms.length k ms hm hl hk).mono ?_
  rintro e w8 (⟨hm0, rfl, F8⟩ | ⟨b, x0, x1, x2, x3, A1, n1, k1, hB, hbx, hn1, rfl, R8, hA8, hk8, F8⟩)
  · obtain rfl : ms = [] := List.eq_nil_of_length_eq_zero hm0
    exact ⟨[], A, 0, k, 0, 0, false, 0, false, rfl, rfl, ⟨rfl, .inl rfl⟩, hA, by omega, by omega, .inl ⟨rfl, rfl, rfl, rfl, rfl, rfl, rfl⟩,
      fun w' h => (qtake_none h (fun m hm => rfl)).mono fun e w'' ⟨h1, h2⟩ => ⟨h1, h.calm h2, h2.mono (fun _ _ x => x.elim)⟩, GoodQ.nil, F8⟩
  · obtain ⟨i, hi, hpi⟩ : ∃ i : Nat, i < 3 ∧ x0 = (i : Int) + 1 := by
      have := hg.1 (ms.getD b EIt.z) (by rw [List.getD_eq_getElem?_getD, List.getElem?_eq_getElem hB.1]; exact List.getElem_mem _)
      rw [hbx] at this
      exact ⟨(x0 - 1).toNat, by simp only at this; omega, by simp only at this; omega⟩
    obtain ⟨t1, t2, t3⟩ := bnd_take hB
    rw [hbx] at t1 t2 t3
    simp only at t1 t2 t3
    have hout : tkOut ms (ms.take b ++ ms.drop (b + 1)) x0 x1 x2 x3 true := .inr ⟨rfl, b, hB, hbx, rfl⟩
    obtain ⟨ms', hms'⟩ : ∃ z, ms.take b ++ ms.drop (b + 1) = z := ⟨_, rfl⟩
    rw [hms'] at t1 t2 R8 hout
    have hn' : ms'.length = n1 := R8.1
    refine ⟨ms', A1, n1, k1, x0, x1, x2, x3, true, rfl, hn', R8, fun ad h => by have := hA8 ad h; omega, hk8, by omega, hout, fun w' h => ?_, ⟨fun y hy => hg.1 y ?_, fun m hm => ?_⟩, F8⟩
    · refine (qtake_at h hi (x0 := x1) (x1 := x2) (x2 := x3) (l := bnd x0 ms') (by show bnd ((i : Int) + 1) ms = _; rw [← hpi]; exact t1) (fun m h1 h2 => t3 _ (by omega)) (p := x0) hpi.symm).mono ?_
      rintro e w'' ⟨he, hq2, hf⟩
      refine ⟨he, ?_, hf⟩
      have hfun : upd (fun i : Nat => bnd ((i : Int) + 1) ms) i (bnd x0 ms') = (fun i : Nat => bnd ((i : Int) + 1) ms') := by
        funext m
        by_cases e : m = i
        · subst e; rw [upd_same, hpi]
        · rw [upd_ne _ e]; exact (t2 _ (by omega)).symm
      rw [hfun] at hq2; exact hq2
    · rw [← hms'] at hy; rcases List.mem_append.1 hy with h | h
      · exact List.mem_of_mem_take h
      · exact List.mem_of_mem_drop h
    · by_cases e : (m : Int) + 1 = x0
      · have h := hg.2 m hm
        rw [e, t1] at h
        rw [e]; exact h.tail
      · rw [t2 _ e]; exact hg.2 m hm

end Go.Proofs.Ytahddolplklopaa
