/- CeN. -/
import Derived.Test.YtbmhgkajjjiniaaChecked
import Derived.WalkKit
import Derived.Laws.IdiomCopy
import Derived.Deep.QuietTactic
import Derived.BigQuiet
import Derived.Lib.Hide
import Derived.OpenShut
import Derived.StillTailTactics
import Derived.Deep.RegionWith
import Derived.Deep.RegionLaw
import Derived.Deep.Slices
import Derived.Deep.RegionHeld3
import Derived.OwnWalk
import Derived.Test.YtbmhgkajjjiniaaBase
import Derived.Test.YtbmhgkajjjiniaaCalm
import Derived.Test.YtbmhgkajjjiniaaCalmT
import Derived.Test.YtbmhgkajjjiniaaCel
import Derived.Test.YtbmhgkajjjiniaaApp
import Derived.Test.YtbmhgkajjjiniaaClk
import Derived.Test.YtbmhgkajjjiniaaRV
import Derived.Test.YtbmhgkajjjiniaaRVB
import Derived.Test.YtbmhgkajjjiniaaRVC
import Derived.Test.YtbmhgkajjjiniaaRVA
import Derived.Test.YtbmhgkajjjiniaaCeS
import Derived.Test.YtbmhgkajjjiniaaCeF
import Derived.Test.YtbmhgkajjjiniaaCeG
namespace Go.Proofs.Ytbmhgkajjjiniaa
open Go.RowKit
set_option linter.unusedVariables false
set_option linter.unusedSimpArgs false

/-! ### cell.New -/
def EK0 : El (Option Nat × Int × Bool) := ⟨fun k => [.pointer (k.1.map fun b => ⟨b, 0, none⟩), .int .i64 k.2.1, .bool k.2.2], 3, fun _ => rfl, by omega, (none, 0, false)⟩
theorem infoKn : (Try.prog.info? 66).map (fun i => (i.zero, i.size, i.bytes)) = some (some (.agg #[.pointer none, .int .i64 0, .bool false]), 3, 24) := by kernel_rfl
/-- So far: the first rings are there. -/
def soFar (sh : List (Nat × Nat)) (N : Nat) : List (Option Nat × Int × Bool) := sh.map (fun p => (some p.1, 0, false)) ++ List.replicate (N - sh.length) (none, 0, false)
theorem soFar_full {sh : List (Nat × Nat)} {N : Nat} (h : sh.length = N) : EK0.flat (soFar sh N) = EKn.flat (sh.zip (List.replicate N dz)) := by
  unfold El.flat soFar
  congr 1
  subst h
  rw [Nat.sub_self, List.replicate_zero, List.append_nil]
  induction sh with
  | nil => rfl
  | cons p sh ih => simp only [List.map_cons, List.flatMap_cons, List.length_cons, List.replicate_succ, List.zip_cons_cons, ih]; rfl
theorem soFar_set {sh : List (Nat × Nat)} {N b a : Nat} (h : sh.length < N) : (soFar sh N).set sh.length (some b, 0, false) = soFar (sh ++ [(b, a)]) N := by
  unfold soFar
  rw [List.set_append_right _ _ (by simp), List.length_map, Nat.sub_self, show N - sh.length = (N - (sh ++ [(b, a)]).length) + 1 from by simp; omega, List.replicate_succ, List.set_cons_zero]
  simp
theorem soFar_len {sh : List (Nat × Nat)} {N : Nat} (h : sh.length ≤ N) : (soFar sh N).length = N := by unfold soFar; simp; omega
structure NwRel (w : World) (s g N : Nat) (sh : List (Nat × Nat)) (wr : World) : Prop where
  sb : wr.heap[s]? = some (.cells #[.slice (some ⟨g, 0, none⟩) N N] 60 (0, 0))
  gb : wr.heap[g]? = some (.cells (EK0.flat (soFar sh N)) 66 (0, 0))
  le : sh.length ≤ N
  ring : ∀ i, i < sh.length → RV.Rg wr (sg sh i).1 (sg sh i).2 16 []
  n1 : ∀ i, i < sh.length → (sg sh i).1 ≠ s ∧ (sg sh i).1 ≠ g ∧ (sg sh i).2 ≠ s ∧ (sg sh i).2 ≠ g
  n2 : ∀ i j, i < sh.length → j < sh.length → i ≠ j → (sg sh i).1 ≠ (sg sh j).1 ∧ (sg sh i).1 ≠ (sg sh j).2 ∧ (sg sh i).2 ≠ (sg sh j).1 ∧ (sg sh i).2 ≠ (sg sh j).2
  up : ∀ i, i < sh.length → w.heap.size ≤ (sg sh i).1 ∧ w.heap.size ≤ (sg sh i).2
  fr : Fr (fun _ => False) w wr
def NwR (w : World) (s g N : Nat) (i : Value) (wr : World) : Prop := ∃ sh, i = .int .i64 (sh.length : Int) ∧ NwRel w s g N sh wr
def NwPost (w : World) (N : Nat) (e : Ending) (w' : World) : Prop :=
  ∃ s g sh, e = .returned (.pointer (some ⟨s, 0, none⟩)) ∧ sh.length = N ∧ St w' s g sh (List.replicate N dz) ∧ Fr (fun _ => False) w w' ∧ ∀ i, inSt s g sh i → w.heap.size ≤ i
theorem sg_snoc_lt {sh : List (Nat × Nat)} {p : Nat × Nat} {i : Nat} (h : i < sh.length) : sg (sh ++ [p]) i = sg sh i := by unfold sg; simp [List.getD_eq_getElem?_getD, List.getElem?_append_left h]
theorem sg_snoc_eq {sh : List (Nat × Nat)} {p : Nat × Nat} : sg (sh ++ [p]) sh.length = p := by unfold sg; simp [List.getD_eq_getElem?_getD]
theorem NwRel.step {w wr wA : World} {s g N b a : Nat} {sh : List (Nat × Nat)} (h : NwRel w s g N sh wr) (hsg : s ≠ g) (hwg : w.heap.size ≤ g) (hlt : sh.length < N) (RA : RV.Rg wA b a 16 []) (FA : Fr (fun _ => False) wr wA) (hb : wr.heap.size ≤ b) (ha : wr.heap.size ≤ a) :
    NwRel w s g N (sh ++ [(b, a)]) (wA.setCell ⟨g, sh.length * 3, none⟩ (.pointer (some ⟨b, 0, none⟩))) := by
  have hgw := lt_of h.gb
  have hsw := lt_of h.sb
  have hl := soFar_len h.le
  have hz : (soFar sh N).getD sh.length EK0.z = (none, 0, false) := by
    unfold soFar
    rw [List.getD_eq_getElem?_getD, List.getElem?_append_right (by simp), List.getElem?_replicate, if_pos (by simp; omega)]; rfl
  have hll : (sh ++ [(b, a)]).length = sh.length + 1 := by simp
  have hF : Fr (fun k => k = g) wA (wA.setCell ⟨g, sh.length * 3, none⟩ (.pointer (some ⟨b, 0, none⟩))) := (Fr.refl (fun k => k = g) wA).setCell (p := ⟨g, sh.length * 3, none⟩) (fun _ => rfl) _
  have old : ∀ i, i < sh.length → (sg sh i).1 < wr.heap.size ∧ (sg sh i).2 < wr.heap.size := fun i hi => ⟨(h.ring i hi).lb, (h.ring i hi).la⟩
  refine ⟨hF.at_ (FA.at_ h.sb (fun x => x)) hsg, ?_, by omega, fun i hi => ?_, fun i hi => ?_, fun i j hi hj hij => ?_, fun i hi => ?_, ?_⟩
  · rw [set_at (FA.at_ h.gb (fun x => x)) (sh.length * 3) (.pointer (some ⟨b, 0, none⟩))]
    congr 2
    unfold El.flat
    rw [← soFar_set hlt, ← EK0.flat_set (soFar sh N) sh.length (some b, 0, false) (by omega)]
    have g1 : ((soFar sh N).flatMap EK0.enc)[sh.length * 3 + 1]? = some (.int .i64 0) := by have := EK0.flat_get (soFar sh N) sh.length 1 (by omega) (by decide); rw [hz] at this; exact this
    have g2 : ((soFar sh N).flatMap EK0.enc)[sh.length * 3 + 1 + 1]? = some (.bool false) := by have := EK0.flat_get (soFar sh N) sh.length 2 (by omega) (by decide); rw [hz] at this; exact this
    show ((soFar sh N).flatMap EK0.enc).toArray.setIfInBounds (sh.length * 3) (.pointer (some ⟨b, 0, none⟩)) = (((((soFar sh N).flatMap EK0.enc).set (sh.length * 3) (.pointer (some ⟨b, 0, none⟩))).set (sh.length * 3 + 1) (.int .i64 0)).set (sh.length * 3 + 1 + 1) (.bool false)).toArray
    rw [set_same (l := ((soFar sh N).flatMap EK0.enc).set (sh.length * 3) (.pointer (some ⟨b, 0, none⟩))) (by rw [List.getElem?_set_ne (by omega)]; exact g1)]
    rw [set_same (l := ((soFar sh N).flatMap EK0.enc).set (sh.length * 3) (.pointer (some ⟨b, 0, none⟩))) (by rw [List.getElem?_set_ne (by omega)]; exact g2)]
    simp
  · by_cases e : i < sh.length
    · rw [sg_snoc_lt e]
      exact ((h.ring i e).fr FA (fun x => x) (fun x => x)).fr hF (h.n1 i e).2.1 (h.n1 i e).2.2.2
    · obtain rfl : i = sh.length := by omega
      rw [sg_snoc_eq]
      exact RA.fr hF (by omega) (by omega)
  · by_cases e : i < sh.length
    · rw [sg_snoc_lt e]; exact h.n1 i e
    · obtain rfl : i = sh.length := by omega
      rw [sg_snoc_eq]; simp only; omega
  · by_cases e : i < sh.length
    · by_cases e' : j < sh.length
      · rw [sg_snoc_lt e, sg_snoc_lt e']; exact h.n2 i j e e' hij
      · obtain rfl : j = sh.length := by omega
        rw [sg_snoc_lt e, sg_snoc_eq]
        have := old i e
        simp only; omega
    · obtain rfl : i = sh.length := by omega
      have e' : j < sh.length := by omega
      rw [sg_snoc_lt e', sg_snoc_eq]
      have := old j e'
      simp only; omega
  · have := h.fr.size
    by_cases e : i < sh.length
    · rw [sg_snoc_lt e]; exact h.up i e
    · obtain rfl : i = sh.length := by omega
      rw [sg_snoc_eq]; simp only; omega
  · exact (h.fr.step FA nop).step hF (fun i (hi : i = g) => by omega)
/-- How many signals a store has that is asked for with n. -/
def nsig (n : Int) : Nat := (min (max n 0) 8).toNat
section
attribute [local go_sem] max_ii min_ii
set_option maxRecDepth 100000 in
set_option maxHeartbeats 3200000 in
theorem store_new (w : World) (n : Int) : Calls Try.prog 11 #[.int .i64 n] w (NwPost w (nsig n)) := by
  obtain ⟨N, hN⟩ : ∃ N, N = nsig n := ⟨_, rfl⟩
  rw [← hN]
  have hcr : n < 0 ∧ N = 0 ∨ 8 < n ∧ N = 8 ∨ 0 ≤ n ∧ n ≤ 8 ∧ n = (N : Int) := by rw [hN]; unfold nsig; omega
  have hN8 : N ≤ 8 := by omega
  have e1 : (if n < 0 then (0 : Int) else n) = max n 0 := by split <;> omega
  have e2 : (if (8 : Int) < max n 0 then (8 : Int) else max n 0) = (N : Int) := by split <;> omega
  obtain ⟨i0, hi, hz0, hz1, hz2⟩ := info_parts infoKn
  have hmk : ∀ W, (Instr.makeSlice 58 (.int .i64 (N : Int)) (.int .i64 (N : Int))).run Try.prog W = .ok (.slice (some ⟨W.heap.size, 0, none⟩) N N) (W.alloc (.cells (EK0.flat (List.replicate N EK0.z)) 66)) := by
    intro W
    have := run_make (P := Try.prog) W 58 66 i0 _ Try.underlying58 hi hz0 .i64 .i64 (N : Int) (N : Int) (by omega) (by omega) (by rw [hz2]; omega) (by omega)
    rw [this, hz1]
    simp only [Int.toNat_natCast]
    rw [← made_flat EK0 N]; rfl
  have B0 := alloc_at (alloc_is (w := w) (n := w.heap.size) (.cells (EK0.flat (List.replicate N EK0.z)) 66) rfl) (.cells #[.slice (some ⟨w.heap.size, 0, none⟩) N N] 60)
  have B1 := alloc_is (w := w.alloc (.cells (EK0.flat (List.replicate N EK0.z)) 66)) (n := w.heap.size + 1) (.cells #[.slice (some ⟨w.heap.size, 0, none⟩) N N] 60) (by simp)
  have F := ((Fr.refl (fun _ => False) w).alloc (.cells (EK0.flat (List.replicate N EK0.z)) 66)).alloc (.cells #[.slice (some ⟨w.heap.size, 0, none⟩) N N] 60)
  generalize hw1 : (w.alloc (.cells (EK0.flat (List.replicate N EK0.z)) 66)).alloc (.cells #[.slice (some ⟨w.heap.size, 0, none⟩) N N] 60) = w1 at B0 B1 F
  have k0 : w1.cell? ⟨w.heap.size + 1, 0, none⟩ = some (.slice (some ⟨w.heap.size, 0, none⟩) N N) := by rw [cell_of B1]; rfl
  have HR : Hid (NwRel w (w.heap.size + 1) w.heap.size N [] w1) := Lib.hid ⟨B1, by rw [B0]; unfold soFar; simp; rfl, Nat.zero_le _, fun i h => by simp at h, fun i h => by simp at h, fun i j h => by simp at h, fun i h => by simp at h, F⟩
  clear hi hz0 hz1 hz2 hcr hN B0 B1 F
  go_enter Try.func11, Try.ntmps11
  go_wp2_with fail
  clear k0 hmk e1 e2 hw1
  go_loopw [16] (fun i wr => NwR w (w.heap.size + 1) w.heap.size N i wr) (fun i _ => N - (intOf i).toNat)
  case atStart => exact ⟨[], rfl, HR.out⟩
  case round =>
    clear HR
    obtain ⟨sh, rfl, R⟩ := hrel
    have HR := Lib.hid R
    by_cases hlt : sh.length < N
    · have hlt' : (sh.length : Int) < (N : Int) := by omega
      have n0 : ∀ x : Calm wr, x.to.cell? ⟨w.heap.size + 1, 0, none⟩ = some (.slice (some ⟨w.heap.size, 0, none⟩) N N) := fun x => by rw [cell_of (x.fr.at_ HR.out.sb (fun h => h))]; rfl
      clear R
      generalize hJ : sh.length = J at hlt hlt'
      have HJ := Lib.hid hJ
      clear hJ
      have HS : Hid (∀ w', Fr (fun _ => False) wr w' → w'.cell? ⟨w.heap.size + 1, 0, none⟩ = some (.slice (some ⟨w.heap.size, 0, none⟩) N N)) := Lib.hid (fun w' h => n0 ⟨w', h⟩)
      have HN : Hid (∀ w', Fr (fun _ => False) wr w' → Calls Try.prog 19 #[.int .i64 16] w' fun e w'' => ∃ b a, e = .returned (.pointer (some ⟨b, 0, none⟩)) ∧ RV.Rg w'' b a 16 [] ∧ Fr (fun _ => False) wr w'' ∧ wr.heap.size ≤ b ∧ wr.heap.size ≤ a) := Lib.hid (fun w' h => (RV.New w' 16).mono fun e w'' ⟨b, a, h1, h2, h3, h4, h5⟩ => ⟨b, a, h1, h2, h.step h3 nop, Nat.le_trans h.size h4, Nat.le_trans h.size h5⟩)
      have HG : Hid (∀ w', Fr (fun _ => False) wr w' → w'.cell? ⟨w.heap.size, J * 3, none⟩ = some (.pointer none) ∧ w'.frozen? ⟨w.heap.size, J * 3, none⟩ = false) := Lib.hid (fun w' h => by
        have hg := h.at_ HR.out.gb (fun x => x)
        refine ⟨?_, frozen_of hg _⟩
        rw [cell_of hg]
        show ((soFar sh N).flatMap EK0.enc).toArray[J * 3]? = _
        rw [List.getElem?_toArray]
        have hl := soFar_len HR.out.le
        have := EK0.flat_get (soFar sh N) J 0 (by omega) (by decide)
        have hz : (soFar sh N).getD J EK0.z = (none, 0, false) := by
          unfold soFar
          rw [List.getD_eq_getElem?_getD, List.getElem?_append_right (by simp; have := HJ.out; omega)]
          rw [List.getElem?_replicate, if_pos (by simp; have := HJ.out; omega)]; rfl
        rw [hz] at this; exact this)
      have hF0 : Fr (fun _ => False) wr wr.drew := (Fr.refl _ _).drew
      have hJ3 : (J : Int) < (N : Int) := hlt'
      go_wp2_with fail
      go_region_held3 (fun w' => w'.cell? ⟨w.heap.size + 1, 0, none⟩ = some (.slice (some ⟨w.heap.size, 0, none⟩) N N))
        (first | exact HS.out _ (by assumption) | (rw [show (World.setCell _ _ _).cell? ⟨w.heap.size + 1, 0, none⟩ = _ from World.cell?_setCell_other _ _ _ _ (by simp)]; exact HS.out _ (by assumption)))
        ((go_at_call 19; refine (HN.out _ (by assumption)).mono ?_; rintro e wA ⟨b, a, rfl, RA, FA, hbA, haA⟩; obtain ⟨gA, zA⟩ := HG.out _ FA))
      have HST := Lib.hid (HR.out.step (by omega) (Nat.le_refl _) (by have := HJ.out; omega) RA FA hbA haA)
      rw [HJ.out] at HST
      clear RA FA gA zA hF0
      generalize wA.setCell ⟨w.heap.size, J * 3, none⟩ (.pointer (some ⟨b, 0, none⟩)) = w5 at HST ⊢
      go_wp2
      go_roundw
      case rel => exact ⟨sh ++ [(b, a)], by rw [List.length_append, HJ.out]; rfl, HST.out⟩
      case measure => simp [intOf]; omega
    · have hle := R.le
      have hN2 : sh.length = N := by omega
      have h3 : ¬ (sh.length : Int) < (N : Int) := by omega
      have HSt : Hid (St wr (w.heap.size + 1) w.heap.size sh (List.replicate N dz)) := Lib.hid ⟨by rw [hN2]; exact R.sb, by rw [R.gb, soFar_full hN2], by simp; omega, by omega, fun i hi => by
        rw [show (List.replicate N dz).getD i dz = dz from by rw [List.getD_eq_getElem?_getD, List.getElem?_replicate]; split <;> rfl]
        exact R.ring i hi, by omega, R.n1, R.n2⟩
      have HUp : Hid (∀ i, inSt (w.heap.size + 1) w.heap.size sh i → w.heap.size ≤ i) := Lib.hid (fun i hi => by
        rcases hi with rfl | rfl | ⟨j, hj, rfl | rfl⟩
        · omega
        · omega
        · exact (R.up j hj).1
        · exact (R.up j hj).2)
      have HF := Lib.hid R.fr
      have HN2 := Lib.hid hN2
      clear R HR hN2
      generalize hJ : sh.length = J at hlt h3
      have HJ := Lib.hid hJ
      clear hJ
      go_wp2
      go_ret
      exact ⟨_, _, sh, rfl, HN2.out, HSt.out, HF.out, HUp.out⟩
end

end Go.Proofs.Ytbmhgkajjjiniaa
