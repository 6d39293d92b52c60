/- Bq. -/
import Derived.Test.YtahddolplklopaaChecked
import Derived.WalkKit
import Derived.Laws.IdiomCopy
import Derived.Deep.QuietTactic
import Derived.BigQuiet
import Derived.Lib.Hide
import Derived.OpenShut
import Derived.StillTailTactics
import Derived.Deep.RegionWith
import Derived.Deep.RegionLaw
import Derived.Deep.Slices
import Derived.Deep.RegionHeld3
import Derived.OwnWalk
import Derived.Test.YtahddolplklopaaBase
import Derived.Test.YtahddolplklopaaCalm
import Derived.Test.YtahddolplklopaaCalmT
import Derived.Test.YtahddolplklopaaCel
import Derived.Test.YtahddolplklopaaApp
import Derived.Test.YtahddolplklopaaRE
import Derived.Test.YtahddolplklopaaREB
import Derived.Test.YtahddolplklopaaREC
import Derived.Test.YtahddolplklopaaREA
import Derived.LoopN
namespace Go.Proofs.Ytahddolplklopaa
open Go.RowKit
set_option linter.unusedVariables false
set_option linter.unusedSimpArgs false

/-! ### band.Queue as it lies -/
abbrev Ev := Int × Bool × Int
def tri {α : Type} (x y z : α) (i : Nat) : α := if i = 0 then x else if i = 1 then y else z
def upd {α : Type} (f : Nat → α) (i : Nat) (x : α) : Nat → α := fun k => if k = i then x else f k
theorem upd_same {α : Type} (f : Nat → α) (i : Nat) (x : α) : upd f i x i = x := by unfold upd; rw [if_pos rfl]
theorem upd_ne {α : Type} (f : Nat → α) {i k : Nat} (h : k ≠ i) (x : α) : upd f i x k = f k := by unfold upd; rw [if_neg h]
theorem upd_id {α : Type} (f : Nat → α) (i : Nat) : upd f i (f i) = f := by
  funext k
  by_cases h : k = i
  · rw [h, upd_same]
  · rw [upd_ne _ h]
structure Qu (w : World) (q : Nat) (qs : Nat → Nat × Nat) (cs : Nat → Nat) (ls : Nat → List Ev) : Prop where
  qb : w.heap[q]? = some (.cells #[.pointer (some ⟨(qs 0).1, 0, none⟩), .pointer (some ⟨(qs 1).1, 0, none⟩), .pointer (some ⟨(qs 2).1, 0, none⟩)] 96 (0, 0))
  ring : ∀ i, i < 3 → RE.Rg w (qs i).1 (qs i).2 (cs i) (ls i)
  n1 : ∀ i, i < 3 → (qs i).1 ≠ q ∧ (qs i).2 ≠ q
  n2 : ∀ i j, i < 3 → j < 3 → i ≠ j → (qs i).1 ≠ (qs j).1 ∧ (qs i).1 ≠ (qs j).2 ∧ (qs i).2 ≠ (qs j).1 ∧ (qs i).2 ≠ (qs j).2
/-- The blocks of a queue. -/
def inQ (q : Nat) (qs : Nat → Nat × Nat) (k : Nat) : Prop := k = q ∨ ∃ i, i < 3 ∧ (k = (qs i).1 ∨ k = (qs i).2)
section
variable {w w' : World} {q : Nat} {qs : Nat → Nat × Nat} {cs : Nat → Nat} {ls : Nat → List Ev}
theorem Qu.fr {S : Nat → Prop} (h : Qu w q qs cs ls) (hf : Fr S w w') (hS : ∀ k, inQ q qs k → ¬ S k) : Qu w' q qs cs ls :=
  ⟨hf.at_ h.qb (hS _ (.inl rfl)), fun i hi => (h.ring i hi).fr hf (hS _ (.inr ⟨i, hi, .inl rfl⟩)) (hS _ (.inr ⟨i, hi, .inr rfl⟩)), h.n1, h.n2⟩
theorem Qu.calm (h : Qu w q qs cs ls) (hf : Fr (fun _ => False) w w') : Qu w' q qs cs ls := h.fr hf (fun _ _ x => x)
theorem Qu.in_ (h : Qu w q qs cs ls) {k : Nat} (hk : inQ q qs k) : k < w.heap.size := by
  rcases hk with rfl | ⟨i, hi, rfl | rfl⟩
  · exact lt_of h.qb
  · exact (h.ring i hi).lb
  · exact (h.ring i hi).la
/-- One band is another one. -/
theorem Qu.one (h : Qu w q qs cs ls) {i : Nat} (hi : i < 3) {l : List Ev} (hr : RE.Rg w' (qs i).1 (qs i).2 (cs i) l) (hf : Fr (fun k => k = (qs i).1 ∨ k = (qs i).2) w w') : Qu w' q qs cs (upd ls i l) := by
  have n1 := h.n1 i hi
  refine ⟨hf.at_ h.qb (by omega), fun j hj => ?_, h.n1, h.n2⟩
  by_cases e : j = i
  · subst e; rw [upd_same]; exact hr
  · rw [upd_ne _ e]
    have n2 := h.n2 j i hj hi e
    exact (h.ring j hj).fr hf (by omega) (by omega)
theorem inQ.sub {i : Nat} (hi : i < 3) : ∀ k, k = (qs i).1 ∨ k = (qs i).2 → inQ q qs k := fun _ h => .inr ⟨i, hi, h⟩
/-! ### band -/
set_option maxRecDepth 100000 in
set_option maxHeartbeats 3200000 in
theorem band_yes (h : Qu w q qs cs ls) {i : Nat} (hi : i < 3) :
    Calls Try.prog 38 #[.pointer (some ⟨q, 0, none⟩), .int .u8 ((i : Int) + 1)] w fun e w' => e = .returned (.pointer (some ⟨(qs i).1, 0, none⟩)) ∧ w = w' := by
  obtain ⟨c0, c1, c2⟩ := cells3 h.qb
  clear h
  rcases (by omega : i = 0 ∨ i = 1 ∨ i = 2) with rfl | rfl | rfl
  all_goals
    go_enter Try.func38, Try.ntmps38
    go_wp2
    go_ret
    exact ⟨rfl, rfl⟩
set_option maxRecDepth 100000 in
set_option maxHeartbeats 3200000 in
theorem band_no (w : World) (q : Nat) (p : Int) (hp : p < 1 ∨ 3 < p) :
    Calls Try.prog 38 #[.pointer (some ⟨q, 0, none⟩), .int .u8 p] w fun e w' => e = .returned (.pointer none) ∧ w = w' := by
  by_cases h1 : p < 1
  · clear hp
    go_enter Try.func38, Try.ntmps38
    go_wp2
    go_ret
    exact ⟨rfl, rfl⟩
  · have h3 : 3 < p := by omega
    clear hp
    go_enter Try.func38, Try.ntmps38
    go_wp2
    go_ret
    exact ⟨rfl, rfl⟩
theorem Band_yes (h : Qu w q qs cs ls) {i : Nat} (hi : i < 3) :
    Calls Try.prog 30 #[.pointer (some ⟨q, 0, none⟩), .int .u8 ((i : Int) + 1)] w (RE.AllPost w (ls i)) := by
  have HH := Lib.hid h
  clear h
  go_enter Try.func30, Try.ntmps30
  go_wp2_with fail
  refine (band_yes HH.out hi).mono ?_
  rintro e w1 ⟨rfl, rfl⟩
  go_wp2_with fail
  refine (RE.All (HH.out.ring i hi)).mono ?_
  rintro e w1 ⟨v, rfl, O, F⟩
  have HO := Lib.hid O
  have HF := Lib.hid F
  clear O F
  go_wp2
  go_ret
  exact ⟨v, rfl, HO.out, HF.out⟩
theorem Band_no (w : World) (q : Nat) (p : Int) (hp : p < 1 ∨ 3 < p) :
    Calls Try.prog 30 #[.pointer (some ⟨q, 0, none⟩), .int .u8 p] w fun e w' => e = .returned (.slice none 0 0) ∧ w = w' := by
  have HP := Lib.hid hp
  clear hp
  go_enter Try.func30, Try.ntmps30
  go_wp2_with fail
  refine (band_no w q p HP.out).mono ?_
  rintro e w1 ⟨rfl, rfl⟩
  go_wp2_with fail
  refine (RE.all_nil _).mono ?_
  rintro e w1 ⟨rfl, rfl⟩
  go_wp2
  go_ret
  exact ⟨rfl, rfl⟩
end
/-! ### New -/
def QNPost (w : World) (r0 r1 r2 : Int) (e : Ending) (w' : World) : Prop :=
  ∃ q qs, e = .returned (.pointer (some ⟨q, 0, none⟩)) ∧ Qu w' q qs (tri (RE.room r0) (RE.room r1) (RE.room r2)) (fun _ => []) ∧ Fr (fun _ => False) w w' ∧ ∀ k, inQ q qs k → w.heap.size ≤ k
set_option maxRecDepth 100000 in
set_option maxHeartbeats 3200000 in
theorem qnew (w : World) (r0 r1 r2 : Int) : Calls Try.prog 27 #[.agg #[.int .i64 r0, .int .i64 r1, .int .i64 r2]] w (QNPost w r0 r1 r2) := by
  have A1 := alloc_is (w := w) (n := w.heap.size) (.cells #[.int .i64 r0, .int .i64 r1, .int .i64 r2] 32) rfl
  have F1 := (Fr.refl (fun _ => False) w).alloc (.cells #[.int .i64 r0, .int .i64 r1, .int .i64 r2] 32)
  generalize hw1 : w.alloc (.cells #[.int .i64 r0, .int .i64 r1, .int .i64 r2] 32) = w1 at A1 F1
  have B0 := alloc_is (w := w1) (n := w1.heap.size) (.cells #[.pointer none, .pointer none, .pointer none] 96) rfl
  have A2 := alloc_at A1 (.cells #[.pointer none, .pointer none, .pointer none] 96)
  have F2 := F1.alloc (.cells #[.pointer none, .pointer none, .pointer none] 96)
  generalize hw2 : w1.alloc (.cells #[.pointer none, .pointer none, .pointer none] 96) = w2 at B0 A2 F2
  obtain ⟨c0, c1, c2⟩ := cells3 A2
  have hwq : w.heap.size ≤ w1.heap.size := F1.size
  have hlt : w1.heap.size < w2.heap.size := lt_of B0
  have HWQ := Lib.hid hwq
  have HF := Lib.hid F2
  have HB := Lib.hid B0
  have HLT := Lib.hid hlt
  clear A1 F1 B0 A2 F2 hwq hlt
  have i0 : ∀ w : World, (Instr.index 32 (.agg #[.int .i64 r0, .int .i64 r1, .int .i64 r2]) (.int .i64 0)).run Try.prog w = .ok (.int .i64 r0) w := fun _ => by kernel_rfl
  have i1 : ∀ w : World, (Instr.index 32 (.agg #[.int .i64 r0, .int .i64 r1, .int .i64 r2]) (.int .i64 1)).run Try.prog w = .ok (.int .i64 r1) w := fun _ => by kernel_rfl
  have i2 : ∀ w : World, (Instr.index 32 (.agg #[.int .i64 r0, .int .i64 r1, .int .i64 r2]) (.int .i64 2)).run Try.prog w = .ok (.int .i64 r2) w := fun _ => by kernel_rfl
  go_enter Try.func27, Try.ntmps27
  go_wp2_with fail
  clear c0 c1 c2
  obtain ⟨q, hq⟩ : ∃ q, w1.heap.size = q := ⟨_, rfl⟩
  rw [hq] at HB HWQ HLT
  try rw [hq]
  clear hq hw1 hw2
  refine wp_loop_rounds 4 ?_
  rw [rounds_succ]
  have hF0 : Fr (fun _ => False) w2 w2.drew := (Fr.refl _ _).drew
  have HN0 : Hid (∀ w', Fr (fun _ => False) w2 w' → Calls Try.prog 36 #[.int .i64 r0] w' fun e w'' => ∃ b a, e = .returned (.pointer (some ⟨b, 0, none⟩)) ∧ RE.Rg w'' b a (RE.room r0) [] ∧ Fr (fun _ => False) w2 w'' ∧ w2.heap.size ≤ b ∧ w2.heap.size ≤ a) := Lib.hid (fun w' h => (RE.New w' r0).mono fun e w'' ⟨b, a, h1, h2, h3, h4, h5⟩ => ⟨b, a, h1, h2, h.step h3 nop, Nat.le_trans h.size h4, Nat.le_trans h.size h5⟩)
  have HG0 : Hid (∀ w', Fr (fun _ => False) w2 w' → w'.cell? ⟨q, 0, none⟩ = some (.pointer none) ∧ w'.frozen? ⟨q, 0, none⟩ = false) := Lib.hid (fun w' h => by
    have hb := h.at_ HB.out (fun x => x)
    exact ⟨by rw [cell_of hb]; rfl, frozen_of hb _⟩)
  go_wp2_with fail
  go_region_held3 (fun _ => True)
    (trivial)
    ((go_at_call 36; refine (HN0.out _ (by assumption)).mono ?_; rintro e wA ⟨b0, a0, rfl, RA, FA, hb0, ha0⟩; obtain ⟨gA, zA⟩ := HG0.out _ FA))
  have B1 := set_at (FA.at_ HB.out (fun x => x)) 0 (.pointer (some ⟨b0, 0, none⟩))
  have hlt0 : q < w2.heap.size := lt_of HB.out
  have HRa0 := Lib.hid (RA.far (p := ⟨q, 0, none⟩) (show b0 ≠ q by omega) (show a0 ≠ q by omega) (.pointer (some ⟨b0, 0, none⟩)))
  have Fv0 := (HF.out.step FA nop).setCell (p := ⟨q, 0, none⟩) (fun (h : q < w.heap.size) => absurd h (by have := HWQ.out; omega)) (.pointer (some ⟨b0, 0, none⟩))
  have hsz0 := FA.size
  generalize hv0 : wA.setCell ⟨q, 0, none⟩ (.pointer (some ⟨b0, 0, none⟩)) = v0 at B1 HRa0  Fv0 ⊢
  replace B1 : v0.heap[q]? = some (.cells #[.pointer (some ⟨b0, 0, none⟩), .pointer none, .pointer none] 96 (0, 0)) := B1
  have hsv0 : w2.heap.size ≤ v0.heap.size := by
    rw [← hv0]
    exact Nat.le_trans hsz0 (((Fr.refl (fun k => k = q) wA).setCell (p := ⟨q, 0, none⟩) (fun _ => rfl) _).size)
  have HB0 := Lib.hid B1
  have HF0 := Lib.hid Fv0
  clear B1 Fv0 RA FA gA zA hv0 hsz0 hF0 HN0 HG0
  go_wp2_with fail
  rw [rounds_succ]
  have hF1 : Fr (fun _ => False) v0 v0.drew := (Fr.refl _ _).drew
  have HN1 : Hid (∀ w', Fr (fun _ => False) v0 w' → Calls Try.prog 36 #[.int .i64 r1] w' fun e w'' => ∃ b a, e = .returned (.pointer (some ⟨b, 0, none⟩)) ∧ RE.Rg w'' b a (RE.room r1) [] ∧ Fr (fun _ => False) v0 w'' ∧ v0.heap.size ≤ b ∧ v0.heap.size ≤ a) := Lib.hid (fun w' h => (RE.New w' r1).mono fun e w'' ⟨b, a, h1, h2, h3, h4, h5⟩ => ⟨b, a, h1, h2, h.step h3 nop, Nat.le_trans h.size h4, Nat.le_trans h.size h5⟩)
  have HG1 : Hid (∀ w', Fr (fun _ => False) v0 w' → w'.cell? ⟨q, 1, none⟩ = some (.pointer none) ∧ w'.frozen? ⟨q, 1, none⟩ = false) := Lib.hid (fun w' h => by
    have hb := h.at_ HB0.out (fun x => x)
    exact ⟨by rw [cell_of hb]; rfl, frozen_of hb _⟩)
  go_wp2_with fail
  go_region_held3 (fun _ => True)
    (trivial)
    ((go_at_call 36; refine (HN1.out _ (by assumption)).mono ?_; rintro e wA ⟨b1, a1, rfl, RA, FA, hb1, ha1⟩; obtain ⟨gA, zA⟩ := HG1.out _ FA))
  have B2 := set_at (FA.at_ HB0.out (fun x => x)) 1 (.pointer (some ⟨b1, 0, none⟩))
  have hlt1 : q < v0.heap.size := lt_of HB0.out
  have HRa1 := Lib.hid (RA.far (p := ⟨q, 1, none⟩) (show b1 ≠ q by omega) (show a1 ≠ q by omega) (.pointer (some ⟨b1, 0, none⟩)))
  have HRb0_1 := Lib.hid ((HRa0.out.fr FA (fun x => x) (fun x => x)).far (p := ⟨q, 1, none⟩) (show b0 ≠ q by omega) (show a0 ≠ q by omega) (.pointer (some ⟨b1, 0, none⟩)))
  have hx0_1 : b0 < v0.heap.size ∧ a0 < v0.heap.size := ⟨HRa0.out.lb, HRa0.out.la⟩
  have Fv1 := (HF0.out.step FA nop).setCell (p := ⟨q, 1, none⟩) (fun (h : q < w.heap.size) => absurd h (by have := HWQ.out; omega)) (.pointer (some ⟨b1, 0, none⟩))
  have hsz1 := FA.size
  generalize hv1 : wA.setCell ⟨q, 1, none⟩ (.pointer (some ⟨b1, 0, none⟩)) = v1 at B2 HRa1 HRb0_1 Fv1 ⊢
  replace B2 : v1.heap[q]? = some (.cells #[.pointer (some ⟨b0, 0, none⟩), .pointer (some ⟨b1, 0, none⟩), .pointer none] 96 (0, 0)) := B2
  have hsv1 : v0.heap.size ≤ v1.heap.size := by
    rw [← hv1]
    exact Nat.le_trans hsz1 (((Fr.refl (fun k => k = q) wA).setCell (p := ⟨q, 1, none⟩) (fun _ => rfl) _).size)
  have HB1 := Lib.hid B2
  have HF1 := Lib.hid Fv1
  clear B2 Fv1 RA FA gA zA hv1 hsz1 hF1 HN1 HG1
  go_wp2_with fail
  rw [rounds_succ]
  have hF2 : Fr (fun _ => False) v1 v1.drew := (Fr.refl _ _).drew
  have HN2 : Hid (∀ w', Fr (fun _ => False) v1 w' → Calls Try.prog 36 #[.int .i64 r2] w' fun e w'' => ∃ b a, e = .returned (.pointer (some ⟨b, 0, none⟩)) ∧ RE.Rg w'' b a (RE.room r2) [] ∧ Fr (fun _ => False) v1 w'' ∧ v1.heap.size ≤ b ∧ v1.heap.size ≤ a) := Lib.hid (fun w' h => (RE.New w' r2).mono fun e w'' ⟨b, a, h1, h2, h3, h4, h5⟩ => ⟨b, a, h1, h2, h.step h3 nop, Nat.le_trans h.size h4, Nat.le_trans h.size h5⟩)
  have HG2 : Hid (∀ w', Fr (fun _ => False) v1 w' → w'.cell? ⟨q, 2, none⟩ = some (.pointer none) ∧ w'.frozen? ⟨q, 2, none⟩ = false) := Lib.hid (fun w' h => by
    have hb := h.at_ HB1.out (fun x => x)
    exact ⟨by rw [cell_of hb]; rfl, frozen_of hb _⟩)
  go_wp2_with fail
  go_region_held3 (fun _ => True)
    (trivial)
    ((go_at_call 36; refine (HN2.out _ (by assumption)).mono ?_; rintro e wA ⟨b2, a2, rfl, RA, FA, hb2, ha2⟩; obtain ⟨gA, zA⟩ := HG2.out _ FA))
  have B3 := set_at (FA.at_ HB1.out (fun x => x)) 2 (.pointer (some ⟨b2, 0, none⟩))
  have hlt2 : q < v1.heap.size := lt_of HB1.out
  have HRa2 := Lib.hid (RA.far (p := ⟨q, 2, none⟩) (show b2 ≠ q by omega) (show a2 ≠ q by omega) (.pointer (some ⟨b2, 0, none⟩)))
  have HRb0_2 := Lib.hid ((HRb0_1.out.fr FA (fun x => x) (fun x => x)).far (p := ⟨q, 2, none⟩) (show b0 ≠ q by omega) (show a0 ≠ q by omega) (.pointer (some ⟨b2, 0, none⟩)))
  have hx0_2 : b0 < v1.heap.size ∧ a0 < v1.heap.size := ⟨HRb0_1.out.lb, HRb0_1.out.la⟩
  have HRb1_2 := Lib.hid ((HRa1.out.fr FA (fun x => x) (fun x => x)).far (p := ⟨q, 2, none⟩) (show b1 ≠ q by omega) (show a1 ≠ q by omega) (.pointer (some ⟨b2, 0, none⟩)))
  have hx1_2 : b1 < v1.heap.size ∧ a1 < v1.heap.size := ⟨HRa1.out.lb, HRa1.out.la⟩
  have Fv2 := (HF1.out.step FA nop).setCell (p := ⟨q, 2, none⟩) (fun (h : q < w.heap.size) => absurd h (by have := HWQ.out; omega)) (.pointer (some ⟨b2, 0, none⟩))
  have hsz2 := FA.size
  generalize hv2 : wA.setCell ⟨q, 2, none⟩ (.pointer (some ⟨b2, 0, none⟩)) = v2 at B3 HRa2 HRb0_2 HRb1_2 Fv2 ⊢
  replace B3 : v2.heap[q]? = some (.cells #[.pointer (some ⟨b0, 0, none⟩), .pointer (some ⟨b1, 0, none⟩), .pointer (some ⟨b2, 0, none⟩)] 96 (0, 0)) := B3
  have hsv2 : v1.heap.size ≤ v2.heap.size := by
    rw [← hv2]
    exact Nat.le_trans hsz2 (((Fr.refl (fun k => k = q) wA).setCell (p := ⟨q, 2, none⟩) (fun _ => rfl) _).size)
  have HB2 := Lib.hid B3
  have HF2 := Lib.hid Fv2
  clear B3 Fv2 RA FA gA zA hv2 hsz2 hF2 HN2 HG2
  go_wp2_with fail
  rw [rounds_succ]
  go_wp2
  go_ret
  refine ⟨q, tri (b0, a0) (b1, a1) (b2, a2), rfl, ⟨HB2.out, fun i hi => ?_, fun i hi => ?_, fun i j hi hj hij => ?_⟩, HF2.out, fun k hk => ?_⟩
  · rcases (by omega : i = 0 ∨ i = 1 ∨ i = 2) with rfl | rfl | rfl
    · exact HRb0_2.out
    · exact HRb1_2.out
    · exact HRa2.out
  · rcases (by omega : i = 0 ∨ i = 1 ∨ i = 2) with rfl | rfl | rfl <;> simp only [tri] <;> simp <;> omega
  · have hn0 := HRa0.out.ne
    rcases (by omega : i = 0 ∨ i = 1 ∨ i = 2) with rfl | rfl | rfl <;> rcases (by omega : j = 0 ∨ j = 1 ∨ j = 2) with rfl | rfl | rfl <;> simp only [tri] <;> simp <;> omega
  · have := HWQ.out
    rcases hk with rfl | ⟨i, hi, h⟩
    · exact this
    · have hq2 := HF.out.size
      rcases (by omega : i = 0 ∨ i = 1 ∨ i = 2) with rfl | rfl | rfl <;> simp [tri] at h <;> omega

end Go.Proofs.Ytahddolplklopaa
