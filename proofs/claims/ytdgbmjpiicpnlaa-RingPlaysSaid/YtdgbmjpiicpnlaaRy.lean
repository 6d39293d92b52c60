/- Ry. -/
import Derived.Test.YtdgbmjpiicpnlaaChecked
import Derived.WalkKit
import Derived.Laws.IdiomCopy
import Derived.Deep.QuietTactic
import Derived.BigQuiet
import Derived.Lib.Hide
import Derived.OpenShut
import Derived.StillTailTactics
import Derived.Deep.RegionWith
import Derived.Deep.RegionLaw
import Derived.Deep.Slices
import Derived.Deep.RegionHeld3
import Derived.OwnWalk
import Derived.Test.YtdgbmjpiicpnlaaBase
import Derived.Test.YtdgbmjpiicpnlaaRInt
import Derived.Test.YtdgbmjpiicpnlaaRIntB
import Derived.Test.YtdgbmjpiicpnlaaRIntC
import Derived.Test.YtdgbmjpiicpnlaaRIntA
import Derived.Test.YtdgbmjpiicpnlaaLw1
import Derived.Test.YtdgbmjpiicpnlaaCalm
import Derived.Test.YtdgbmjpiicpnlaaCalmT
import Derived.Test.YtdgbmjpiicpnlaaCel
import Derived.Test.YtdgbmjpiicpnlaaApp
import Derived.Test.YtdgbmjpiicpnlaaRp
import Derived.Test.YtdgbmjpiicpnlaaRf
namespace Go.Proofs.Ytdgbmjpiicpnlaa
open Go.RowKit
set_option linter.unusedVariables false
set_option linter.unusedSimpArgs false

/-! ### RingPlays -/
abbrev Ac := Int × Int
def EAc : El Ac := ⟨fun y => [.int .u8 y.1, .int .i64 y.2], 2, fun _ => rfl, by omega, (0, 0)⟩
theorem Reads.ac {w : World} {b o n : Nat} {xs : List Ac} (h : Reads EAc w (some ⟨b, o, none⟩) n xs) {k : Nat} (hk : k < n) {y0 y1} (hy : xs.getD k EAc.z = (y0, y1)) :
    w.cell? ⟨b, o + k * 2, none⟩ = some (.int .u8 y0) ∧ w.cell? ⟨b, o + k * 2 + 1, none⟩ = some (.int .i64 y1) := by
  refine ⟨?_, ?_⟩
  · have := h.cellj (j := 0) hk (by decide); rw [hy] at this; exact this
  · have := h.cellj (j := 1) hk (by decide); rw [hy] at this; exact this
theorem own_set {w : World} {base : Nat} {v : Value} {l : List Int} (h : Own RInt.E 3 w base v l) {i : Nat} (hi : i < l.length) (x : Int) :
    ∃ g k, v = .slice (some ⟨g, 0, none⟩) l.length k ∧ base ≤ g ∧ g < w.heap.size ∧ l.length ≤ k ∧ w.frozen? ⟨g, i, none⟩ = false ∧ (∃ u, w.cell? ⟨g, i, none⟩ = some u) ∧ Own RInt.E 3 (w.setCell ⟨g, i, none⟩ (.int .i64 x)) base v (l.set i x) := by
  have hh := h
  unfold Own World.ownsRow at hh
  obtain ⟨h1, h2 | ⟨g, cap, cur, hv, hb, hg, hnc, hcm, hcs, htk⟩⟩ := hh
  · exact absurd h2.2 (by omega)
  · have hsz : RInt.E.sz = 1 := rfl
    have hicur : i < cur.size := by rw [hcs, hsz]; omega
    refine ⟨g, cap, hv, hb, lt_of hg, hnc, frozen_of hg i, ⟨cur[i], by rw [cell_of hg]; simp [hicur]⟩, ?_⟩
    unfold Own World.ownsRow
    refine ⟨by rw [List.length_set, RInt.E.flat_len, List.length_set], .inr ⟨g, cap, cur.setIfInBounds i (.int .i64 x), by rw [List.length_set]; exact hv, hb, set_at hg i (.int .i64 x), by rw [List.length_set]; exact hnc, hcm, by simp [hcs], ?_⟩⟩
    rw [← RInt.E.flat_set l i x hi, ← htk, List.length_set]
    show (cur.setIfInBounds i (.int .i64 x)).toList.take (l.length * 1) = (cur.toList.take (l.length * 1)).set (i * 1) (.int .i64 x)
    simp only [Nat.mul_one, Array.toList_setIfInBounds]
    rw [List.take_set]
/-- The ring and the document's, alike. -/
def Bd (W : World) (b a c gb B0 : Nat) (wr : World) : Prop :=
  ∃ (l : List Int) (A : Option Addr) (k : Nat), RInt.Rg wr b a c l ∧ wr.heap[gb]? = some (.cells #[.int .i64 ((c : Nat) : Int), .slice A l.length k] 43 (0, 0)) ∧ Reads RInt.E wr A l.length l ∧ l.length ≤ k ∧ (∀ ad, A = some ad → B0 ≤ ad.block) ∧ Fr (fun _ => False) W wr ∧ B0 ≤ wr.heap.size
structure Ap (W : World) (b a gb B0 : Nat) : Prop where
  pb : W.heap.size ≤ b ∧ b < B0
  pa : W.heap.size ≤ a ∧ a < B0
  pg : W.heap.size ≤ gb ∧ gb < B0
  ngb : gb ≠ b
  nga : gb ≠ a
def RyRel (W : World) (b a c gb B0 n : Nat) (i : Value) (wr : World) : Prop := ∃ j : Nat, i = .int .i64 j ∧ j ≤ n ∧ Bd W b a c gb B0 wr
theorem Bd.calm {W w w' : World} {b a c gb B0 : Nat} (h : Bd W b a c gb B0 w) (hf : Fr (fun _ => False) w w') : Bd W b a c gb B0 w' := by
  obtain ⟨l, A, k, h1, h2, h3, h4, h5, h6, h7⟩ := h
  exact ⟨l, A, k, h1.fr hf (fun x => x) (fun x => x), hf.at_ h2 (fun x => x), h3.fr hf (fun _ _ x => x), h4, h5, h6.step hf nop, by have := hf.size; omega⟩
/-- Behind the ring's own turn. -/
theorem Bd.mk {W w w' : World} {b a c gb B0 : Nat} (ha : Ap W b a gb B0) {l : List Int} {A : Option Addr} {n k : Nat} (hl : l.length = n) (hR : RInt.Rg w' b a c l) (hG : w.heap[gb]? = some (.cells #[.int .i64 ((c : Nat) : Int), .slice A n k] 43 (0, 0))) (hM : Reads RInt.E w A n l)
    (hk : n ≤ k) (hA : ∀ ad, A = some ad → B0 ≤ ad.block) (hW : Fr (fun _ => False) W w) (hB : B0 ≤ w.heap.size) (hf : Fr (fun i => i = b ∨ i = a) w w') : Bd W b a c gb B0 w' := by
  subst hl
  exact ⟨l, A, k, hR, hf.at_ hG (fun h => h.elim ha.ngb ha.nga), hM.fr hf (fun ad h e => by have := hA ad h; have := ha.pb; have := ha.pa; omega), hk, hA, hW.step hf (fun i h => by have := ha.pb; have := ha.pa; omega), by have := hf.size; omega⟩
set_option maxRecDepth 100000 in
set_option maxHeartbeats 16000000 in
theorem RingPlays_walk (n0 : Int) (A0 : Option Addr) (n cap : Nat) (zs : List Ac) (W : World) (w0 : (Lit.int .i64 n0).wf = true) (hr : Reads EAc W A0 n zs) (hw : ∀ y, y ∈ zs → (Lit.int .u8 y.1).wf = true ∧ (Lit.int .i64 y.2).wf = true) (hcap : n ≤ cap ∧ cap ≤ maxLen) :
    Calls Try.prog 6 #[.int .i64 n0, .slice A0 n cap] W fun e w' => e = .returned (.bool true) ∧ Below W.heap.size W w' := by
  clear hcap w0
  have HL := Lib.hid hr.1
  have HW := Lib.hid hw
  have HRD := Lib.hid hr
  clear hw hr
  by_cases hn : n ≤ 100
  · have e0 : ¬ (100 : Int) < (n : Int) := by omega
    go_enter Try.func6, Try.ntmps6
    go_wp2_with fail
    refine (fits_any _).mono ?_
    rintro e w1 ⟨rfl, F1⟩
    go_wp2_with fail
    refine (RInt.New _ n0).mono ?_
    rintro e w2 ⟨b, a, rfl, R2, F2, hb, ha⟩
    go_wp2_with fail
    refine (rnew _ n0).mono ?_
    rintro e w3 ⟨rfl, F3⟩
    obtain ⟨c, hc⟩ : ∃ c, RInt.room n0 = c := ⟨_, rfl⟩
    rw [hc] at R2
    have HC := Lib.hid hc
    have F123 := (F1.step F2 nop).step F3 nop
    have R3 := R2.fr F3 (fun x => x) (fun x => x)
    have hbl := R3.lb
    have hal := R3.la
    rw [HC.out]
    have Bz5 : (w3.alloc (.cells #[.int .i64 0, .slice none 0 0] 43)).heap[w3.heap.size]? = some (.cells #[.int .i64 0, .slice none 0 0] 43 (0, 0)) := alloc_is _ rfl
    have Fz5 := (Fr.refl (fun _ => False) w3).alloc (.cells #[.int .i64 0, .slice none 0 0] 43)
    generalize hwm5 : w3.alloc (.cells #[.int .i64 0, .slice none 0 0] 43) = wm5 at Bz5 Fz5
    obtain ⟨c5_0, c5_1⟩ := cells2 Bz5
    have z5_0 := frozen_of Bz5 0
    have z5_1 := frozen_of Bz5 1
    have B5 := put2y (y0 := .int .i64 (c : Int)) (y1 := .slice none 0 0) Bz5
    have Fo5 := (Fr.refl (fun i => i = w3.heap.size) wm5).put2 (b := w3.heap.size) (fun _ => rfl) (.int .i64 (c : Int)) (.slice none 0 0)
    generalize hwo5 : ((wm5.setCell ⟨w3.heap.size, 0, none⟩ (.int .i64 (c : Int))).setCell ⟨w3.heap.size, 1, none⟩ (.slice none 0 0)) = wo5 at B5 Fo5
    have FF5 := Fz5.trans Fo5 (fun i hi (h : i = w3.heap.size) => by omega)
    obtain ⟨d5_0, d5_1⟩ := cells2 B5
    have HAP : Hid (Ap W b a w3.heap.size wo5.heap.size) := Lib.hid (by
      have := F1.size
      have := F123.size
      have := lt_of B5
      exact ⟨by omega, by omega, by omega, by omega, by omega⟩)
    have HBD : Hid (Bd W b a c w3.heap.size wo5.heap.size wo5) := Lib.hid ⟨[], none, 0, R3.fr FF5 (fun x => x) (fun x => x), B5, ⟨rfl, .inl rfl⟩, Nat.le_refl _, fun ad h => (by cases h), F123.step FF5 nop, Nat.le_refl _⟩
    have HRL : Hid (RyRel W b a c w3.heap.size wo5.heap.size n (.int .i64 0) wo5) := Lib.hid ⟨0, rfl, Nat.zero_le _, HBD.out⟩
    clear HBD R2 R3 F1 F2 F3 F123 hb ha hc hbl hal
    go_wp2_with fail
    clear c5_0 z5_0 c5_1 z5_1 d5_0 d5_1 Bz5 Fz5 Fo5 hwm5 hwo5
    clear B5 FF5
    obtain ⟨gb, hgb⟩ : ∃ gb, w3.heap.size = gb := ⟨_, rfl⟩
    rw [hgb] at HAP HRL
    try rw [hgb]
    clear hgb
    obtain ⟨B0, hB0⟩ : ∃ B0, wo5.heap.size = B0 := ⟨_, rfl⟩
    rw [hB0] at HAP HRL
    clear hB0
    go_loopw [7] (fun i wr => RyRel W b a c gb B0 n i wr) (fun i _ => n - (intOf i).toNat)
    case atStart => exact HRL.out
    case round =>
      clear HRL
      obtain ⟨j, rfl, hj, l, A, k, R, G, M, hk, hA, F, hs⟩ := hrel
      have hlc2 := R.le
      have hlc3 := R.cap
      have HR := Lib.hid R
      have HG := Lib.hid G
      have HM := Lib.hid M
      have HF := Lib.hid F
      have HKK := Lib.hid hk
      have HA := Lib.hid hA
      clear R G M F hk hA
      by_cases hlt : j < n
      · have rz := HRD.out.fr HF.out (fun _ _ x => x)
        obtain ⟨zb, zo, rfl, hzb⟩ := rz.plain (by omega)
        have hwf := HW.out (zs.getD j EAc.z) (by have := HL.out; simp [List.getD_eq_getElem?_getD, this, hlt])
        obtain ⟨y, hy⟩ : ∃ y, zs.getD j EAc.z = y := ⟨_, rfl⟩
        rw [hy] at hwf
        obtain ⟨y0, y1⟩ := y
        have b0 : 0 ≤ y0 ∧ y0 ≤ 255 := bounds_u8 hwf.1
        obtain ⟨l0, l1⟩ := rz.ac hlt hy
        have hlt' : (j : Int) < (n : Int) := by omega
        clear hwf hy rz hzb
        by_cases q0 : y0 % 4 = 0
        · have e1 : (y0 % 4 == 0) = true := by simp [q0]
          clear q0
          by_cases hlc : l.length < c
          · have HFM := Lib.hid (rpush_yes wr (c : Int) A l.length k l y1 HM.out (by omega) (by omega))
            obtain ⟨c0, c1⟩ := cells2 HG.out
            go_wp2_with fail
            refine (HFM.out).mono ?_
            rintro e w2 ⟨A5, k5, rfl, M5, hk5, hA5, F2⟩
            clear c0 c1
            have HF2 := Lib.hid (HF.out.step F2 nop)
            have HG2_ := Lib.hid (F2.at_ HG.out (fun x => x))
            have HR2_ := Lib.hid (HR.out.fr F2 (fun x => x) (fun x => x))
            have hs2_ : B0 ≤ w2.heap.size := by have := F2.size; omega
            have hA6 : ∀ ad, A5 = some ad → B0 ≤ ad.block := fun ad h => by have := hA5 ad h; omega
            have Bz8 : (w2.alloc (.cells #[.int .i64 0, .slice none 0 0] 43)).heap[w2.heap.size]? = some (.cells #[.int .i64 0, .slice none 0 0] 43 (0, 0)) := alloc_is _ rfl
            have Fz8 := (Fr.refl (fun _ => False) w2).alloc (.cells #[.int .i64 0, .slice none 0 0] 43)
            generalize hwm8 : w2.alloc (.cells #[.int .i64 0, .slice none 0 0] 43) = wm8 at Bz8 Fz8
            obtain ⟨c8_0, c8_1⟩ := cells2 Bz8
            have z8_0 := frozen_of Bz8 0
            have z8_1 := frozen_of Bz8 1
            have B8 := put2y (y0 := .int .i64 (c : Int)) (y1 := .slice A5 (l.length + 1) k5) Bz8
            have Fo8 := (Fr.refl (fun i => i = w2.heap.size) wm8).put2 (b := w2.heap.size) (fun _ => rfl) (.int .i64 (c : Int)) (.slice A5 (l.length + 1) k5)
            generalize hwo8 : ((wm8.setCell ⟨w2.heap.size, 0, none⟩ (.int .i64 (c : Int))).setCell ⟨w2.heap.size, 1, none⟩ (.slice A5 (l.length + 1) k5)) = wo8 at B8 Fo8
            have FF8 := Fz8.trans Fo8 (fun i hi (h : i = w2.heap.size) => by omega)
            obtain ⟨d8_0, d8_1⟩ := cells2 B8
            have G8 := FF8.at_ HG2_.out (fun x => x)
            obtain ⟨c9_0, c9_1⟩ := cells2 G8
            have z9_0 := frozen_of G8 0
            have z9_1 := frozen_of G8 1
            have B9 := put2y (y0 := .int .i64 (c : Int)) (y1 := .slice A5 (l.length + 1) k5) G8
            have Fo9 := (Fr.refl (fun i => i = gb) wo8).put2 (b := gb) (fun _ => rfl) (.int .i64 (c : Int)) (.slice A5 (l.length + 1) k5)
            generalize hwo9 : ((wo8.setCell ⟨gb, 0, none⟩ (.int .i64 (c : Int))).setCell ⟨gb, 1, none⟩ (.slice A5 (l.length + 1) k5)) = wo9 at B9 Fo9
            obtain ⟨d9_0, d9_1⟩ := cells2 B9
            have HG9 := Lib.hid B9
            have HM9 := Lib.hid ((M5.fr FF8 (fun _ _ x => x)).fr Fo9 (fun ad h e => by have := hA6 ad h; have := HAP.out.pg; omega))
            have HR9 := Lib.hid ((HR2_.out.fr FF8 (fun x => x) (fun x => x)).fr Fo9 (fun e => HAP.out.ngb e.symm) (fun e => HAP.out.nga e.symm))
            have HF9 := Lib.hid ((HF2.out.step FF8 nop).step Fo9 (fun i e => by have := HAP.out.pg; omega))
            have hs9 : B0 ≤ wo9.heap.size := by have := FF8.size; have := Fo9.size; omega
            have HA6 := Lib.hid hA6
            have HK5 := Lib.hid hk5
            go_wp2_with fail
            refine (RInt.Push_yes HR9.out y1 hlc).mono ?_
            rintro e wz ⟨rfl, Rz, Fz⟩
            have HBD : Hid (Bd W b a c gb B0 wz) := Lib.hid (Bd.mk HAP.out (l := (l ++ [y1])) (n := (l.length + 1)) (by rw [List.length_append]; rfl) Rz HG9.out HM9.out HK5.out HA6.out HF9.out hs9 Fz)
            clear Rz Fz HG9 HM9 HR9 HF9 hs9
            clear c8_0 z8_0 c8_1 z8_1 d8_0 d8_1 Bz8 Fz8 Fo8 hwm8 hwo8
            clear c9_0 z9_0 d9_0 c9_1 z9_1 d9_1 Fo9 hwo9
            clear B8 FF8 B9 G8 HG HR HF HM HF2 HG2_ HR2_ hs2_ F2
            clear M5 hk5 hA5 hA6 HFM
            have HBD2 := HBD.out
            obtain ⟨l2, A2, k2, R2, G2, M2, hk2, hA2, FW2, hs2⟩ := HBD2
            have hc2 := R2.le
            have hc3 := R2.cap
            have HR2 := Lib.hid R2
            have HG2 := Lib.hid G2
            have HM2 := Lib.hid M2
            obtain ⟨n2, hn2⟩ : ∃ n, l2.length = n := ⟨_, rfl⟩
            rw [hn2] at HG2 HM2 hc2
            have HLN : Hid (∀ w', Fr (fun _ => False) wz w' → Calls Try.prog 13 #[.pointer (some ⟨b, 0, none⟩)] w' fun e w'' => e = .returned (.int .i64 (n2 : Int)) ∧ Fr (fun _ => False) wz w'') := Lib.hid (fun w' h => (RInt.Len (HR2.out.fr h (fun x => x) (fun x => x))).mono fun e w'' ⟨h1, h2⟩ => ⟨by rw [h1, hn2], by subst h2; exact h⟩)
            have HAL : Hid (∀ w', Fr (fun _ => False) wz w' → Calls Try.prog 16 #[.pointer (some ⟨b, 0, none⟩)] w' fun e w'' => ∃ A' k', e = .returned (.slice A' n2 k') ∧ Reads RInt.E w'' A' n2 l2 ∧ Fr (fun _ => False) wz w'') := Lib.hid (fun w' h => (RInt.All (HR2.out.fr h (fun x => x) (fun x => x))).mono fun e w'' ⟨v, h1, h2, h3⟩ => by
              obtain ⟨A', k', hv, rd, _⟩ := h2.reads
              rw [hn2] at hv rd
              exact ⟨A', k', by rw [h1, hv], rd, h.step h3 nop⟩)
            have HSM : Hid (∀ w' A' k', Reads RInt.E w' A' n2 l2 → Fr (fun _ => False) wz w' → Calls Try.prog 15 #[.slice A' n2 k', .slice A2 n2 k2] w' fun e w'' => e = .returned (.bool true) ∧ Fr (fun _ => False) wz w'') := Lib.hid (fun w' A' k' h1 h2 => (Same w' A' A2 n2 n2 k' k2 l2 l2 h1 (HM2.out.fr h2 (fun _ _ x => x)) (by omega) (by omega)).mono fun e w'' ⟨h3, m, h4⟩ => ⟨by rw [h3]; unfold sameB; simp, by subst h4; exact h2.drewN m⟩)
            have HS : Hid (∀ w', Fr (fun _ => False) wz w' → w'.cell? ⟨gb, 1, none⟩ = some (.slice A2 n2 k2)) := Lib.hid (fun w' h => by rw [cell_of (h.at_ HG2.out (fun x => x))]; rfl)
            have hF0 : Fr (fun _ => False) wz wz.drew := (Fr.refl _ _).drew
            have hNN : ((n2 : Int) != (n2 : Int)) = false := by simp
            clear R2 G2 M2 hk2 hA2 FW2 hs2 hn2 hc3 hc2
            go_wp2_with fail
            go_region_held3 (fun w' => w'.cell? ⟨gb, 1, none⟩ = some (.slice A2 n2 k2))
              (first | exact HS.out _ (by assumption))
              (first
                | (go_at_call 13; refine (HLN.out _ (by assumption)).mono ?_; rintro e wA ⟨rfl, FA⟩)
                | (go_at_call 16; refine (HAL.out _ (by assumption)).mono ?_; rintro e wB ⟨A3, k3, rfl, RB, FB⟩)
                | (go_at_call 15; refine (HSM.out _ _ _ (by assumption) (by assumption)).mono ?_; rintro e wC ⟨rfl, FC⟩))
            have HRL : Hid (RyRel W b a c gb B0 n (.int .i64 ((j : Int) + 1)) wC) := Lib.hid ⟨j + 1, by push_cast; rfl, by omega, HBD.out.calm FC⟩
            clear FA RB FB FC hF0 HLN HAL HSM HS HR2 HG2 HM2 HBD
            go_wp2
            go_roundw
            case rel => exact HRL.out
            case measure => simp [intOf] <;> omega
          · have hlc9 : c ≤ l.length := by omega
            have HFM := Lib.hid (rpush_no wr (c : Int) A l.length k y1 (by omega))
            obtain ⟨c0, c1⟩ := cells2 HG.out
            go_wp2_with fail
            refine (HFM.out).mono ?_
            rintro e w2 ⟨rfl, F2⟩
            clear c0 c1
            have HF2 := Lib.hid (HF.out.step F2 nop)
            have HG2_ := Lib.hid (F2.at_ HG.out (fun x => x))
            have HR2_ := Lib.hid (HR.out.fr F2 (fun x => x) (fun x => x))
            have hs2_ : B0 ≤ w2.heap.size := by have := F2.size; omega
            have Bz8 : (w2.alloc (.cells #[.int .i64 0, .slice none 0 0] 43)).heap[w2.heap.size]? = some (.cells #[.int .i64 0, .slice none 0 0] 43 (0, 0)) := alloc_is _ rfl
            have Fz8 := (Fr.refl (fun _ => False) w2).alloc (.cells #[.int .i64 0, .slice none 0 0] 43)
            generalize hwm8 : w2.alloc (.cells #[.int .i64 0, .slice none 0 0] 43) = wm8 at Bz8 Fz8
            obtain ⟨c8_0, c8_1⟩ := cells2 Bz8
            have z8_0 := frozen_of Bz8 0
            have z8_1 := frozen_of Bz8 1
            have B8 := put2y (y0 := .int .i64 (c : Int)) (y1 := .slice A l.length k) Bz8
            have Fo8 := (Fr.refl (fun i => i = w2.heap.size) wm8).put2 (b := w2.heap.size) (fun _ => rfl) (.int .i64 (c : Int)) (.slice A l.length k)
            generalize hwo8 : ((wm8.setCell ⟨w2.heap.size, 0, none⟩ (.int .i64 (c : Int))).setCell ⟨w2.heap.size, 1, none⟩ (.slice A l.length k)) = wo8 at B8 Fo8
            have FF8 := Fz8.trans Fo8 (fun i hi (h : i = w2.heap.size) => by omega)
            obtain ⟨d8_0, d8_1⟩ := cells2 B8
            have G8 := FF8.at_ HG2_.out (fun x => x)
            obtain ⟨c9_0, c9_1⟩ := cells2 G8
            have z9_0 := frozen_of G8 0
            have z9_1 := frozen_of G8 1
            have B9 := put2y (y0 := .int .i64 (c : Int)) (y1 := .slice A l.length k) G8
            have Fo9 := (Fr.refl (fun i => i = gb) wo8).put2 (b := gb) (fun _ => rfl) (.int .i64 (c : Int)) (.slice A l.length k)
            generalize hwo9 : ((wo8.setCell ⟨gb, 0, none⟩ (.int .i64 (c : Int))).setCell ⟨gb, 1, none⟩ (.slice A l.length k)) = wo9 at B9 Fo9
            obtain ⟨d9_0, d9_1⟩ := cells2 B9
            have HG9 := Lib.hid B9
            have HM9 := Lib.hid (((HM.out.fr F2 (fun _ _ x => x)).fr FF8 (fun _ _ x => x)).fr Fo9 (fun ad h e => by have := HA.out ad h; have := HAP.out.pg; omega))
            have HR9 := Lib.hid ((HR2_.out.fr FF8 (fun x => x) (fun x => x)).fr Fo9 (fun e => HAP.out.ngb e.symm) (fun e => HAP.out.nga e.symm))
            have HF9 := Lib.hid ((HF2.out.step FF8 nop).step Fo9 (fun i e => by have := HAP.out.pg; omega))
            have hs9 : B0 ≤ wo9.heap.size := by have := FF8.size; have := Fo9.size; omega
            go_wp2_with fail
            refine (RInt.Push_no HR9.out y1 (by have := HR9.out.le; omega)).mono ?_
            rintro e wz ⟨rfl, Fz⟩
            have HBD : Hid (Bd W b a c gb B0 wz) := Lib.hid (Bd.mk HAP.out (l := l) (n := l.length) rfl (HR9.out.fr Fz (fun x => x) (fun x => x)) HG9.out HM9.out HKK.out HA.out HF9.out hs9 (Fz.mono (fun _ _ x => x.elim)))
            clear Fz HG9 HM9 HR9 HF9 hs9
            clear c8_0 z8_0 c8_1 z8_1 d8_0 d8_1 Bz8 Fz8 Fo8 hwm8 hwo8
            clear c9_0 z9_0 d9_0 c9_1 z9_1 d9_1 Fo9 hwo9
            clear B8 FF8 B9 G8 HG HR HF HM HF2 HG2_ HR2_ hs2_ F2
            clear HFM
            have HBD2 := HBD.out
            obtain ⟨l2, A2, k2, R2, G2, M2, hk2, hA2, FW2, hs2⟩ := HBD2
            have hc2 := R2.le
            have hc3 := R2.cap
            have HR2 := Lib.hid R2
            have HG2 := Lib.hid G2
            have HM2 := Lib.hid M2
            obtain ⟨n2, hn2⟩ : ∃ n, l2.length = n := ⟨_, rfl⟩
            rw [hn2] at HG2 HM2 hc2
            have HLN : Hid (∀ w', Fr (fun _ => False) wz w' → Calls Try.prog 13 #[.pointer (some ⟨b, 0, none⟩)] w' fun e w'' => e = .returned (.int .i64 (n2 : Int)) ∧ Fr (fun _ => False) wz w'') := Lib.hid (fun w' h => (RInt.Len (HR2.out.fr h (fun x => x) (fun x => x))).mono fun e w'' ⟨h1, h2⟩ => ⟨by rw [h1, hn2], by subst h2; exact h⟩)
            have HAL : Hid (∀ w', Fr (fun _ => False) wz w' → Calls Try.prog 16 #[.pointer (some ⟨b, 0, none⟩)] w' fun e w'' => ∃ A' k', e = .returned (.slice A' n2 k') ∧ Reads RInt.E w'' A' n2 l2 ∧ Fr (fun _ => False) wz w'') := Lib.hid (fun w' h => (RInt.All (HR2.out.fr h (fun x => x) (fun x => x))).mono fun e w'' ⟨v, h1, h2, h3⟩ => by
              obtain ⟨A', k', hv, rd, _⟩ := h2.reads
              rw [hn2] at hv rd
              exact ⟨A', k', by rw [h1, hv], rd, h.step h3 nop⟩)
            have HSM : Hid (∀ w' A' k', Reads RInt.E w' A' n2 l2 → Fr (fun _ => False) wz w' → Calls Try.prog 15 #[.slice A' n2 k', .slice A2 n2 k2] w' fun e w'' => e = .returned (.bool true) ∧ Fr (fun _ => False) wz w'') := Lib.hid (fun w' A' k' h1 h2 => (Same w' A' A2 n2 n2 k' k2 l2 l2 h1 (HM2.out.fr h2 (fun _ _ x => x)) (by omega) (by omega)).mono fun e w'' ⟨h3, m, h4⟩ => ⟨by rw [h3]; unfold sameB; simp, by subst h4; exact h2.drewN m⟩)
            have HS : Hid (∀ w', Fr (fun _ => False) wz w' → w'.cell? ⟨gb, 1, none⟩ = some (.slice A2 n2 k2)) := Lib.hid (fun w' h => by rw [cell_of (h.at_ HG2.out (fun x => x))]; rfl)
            have hF0 : Fr (fun _ => False) wz wz.drew := (Fr.refl _ _).drew
            have hNN : ((n2 : Int) != (n2 : Int)) = false := by simp
            clear R2 G2 M2 hk2 hA2 FW2 hs2 hn2 hc3 hc2
            go_wp2_with fail
            go_region_held3 (fun w' => w'.cell? ⟨gb, 1, none⟩ = some (.slice A2 n2 k2))
              (first | exact HS.out _ (by assumption))
              (first
                | (go_at_call 13; refine (HLN.out _ (by assumption)).mono ?_; rintro e wA ⟨rfl, FA⟩)
                | (go_at_call 16; refine (HAL.out _ (by assumption)).mono ?_; rintro e wB ⟨A3, k3, rfl, RB, FB⟩)
                | (go_at_call 15; refine (HSM.out _ _ _ (by assumption) (by assumption)).mono ?_; rintro e wC ⟨rfl, FC⟩))
            have HRL : Hid (RyRel W b a c gb B0 n (.int .i64 ((j : Int) + 1)) wC) := Lib.hid ⟨j + 1, by push_cast; rfl, by omega, HBD.out.calm FC⟩
            clear FA RB FB FC hF0 HLN HAL HSM HS HR2 HG2 HM2 HBD
            go_wp2
            go_roundw
            case rel => exact HRL.out
            case measure => simp [intOf] <;> omega
        · have e1 : (y0 % 4 == 0) = false := by simp [q0]
          by_cases q1 : y0 % 4 = 1
          · have e2 : (y0 % 4 == 1) = true := by simp [q1]
            clear q0 q1
            cases l with
            | nil =>
              have HFM := Lib.hid (rpop_no wr (c : Int) A k)
              replace HG : Hid (wr.heap[gb]? = some (.cells #[.int .i64 (c : Int), .slice A 0 k] 43 (0, 0))) := HG
              obtain ⟨c0, c1⟩ := cells2 HG.out
              go_wp2_with fail
              refine (HFM.out).mono ?_
              rintro e w2 ⟨rfl, F2⟩
              clear c0 c1
              have HF2 := Lib.hid (HF.out.step F2 nop)
              have HG2_ := Lib.hid (F2.at_ HG.out (fun x => x))
              have HR2_ := Lib.hid (HR.out.fr F2 (fun x => x) (fun x => x))
              have hs2_ : B0 ≤ w2.heap.size := by have := F2.size; omega
              have Bz8 : (w2.alloc (.cells #[.int .i64 0, .slice none 0 0] 43)).heap[w2.heap.size]? = some (.cells #[.int .i64 0, .slice none 0 0] 43 (0, 0)) := alloc_is _ rfl
              have Fz8 := (Fr.refl (fun _ => False) w2).alloc (.cells #[.int .i64 0, .slice none 0 0] 43)
              generalize hwm8 : w2.alloc (.cells #[.int .i64 0, .slice none 0 0] 43) = wm8 at Bz8 Fz8
              obtain ⟨c8_0, c8_1⟩ := cells2 Bz8
              have z8_0 := frozen_of Bz8 0
              have z8_1 := frozen_of Bz8 1
              have B8 := put2y (y0 := .int .i64 (c : Int)) (y1 := .slice A 0 k) Bz8
              have Fo8 := (Fr.refl (fun i => i = w2.heap.size) wm8).put2 (b := w2.heap.size) (fun _ => rfl) (.int .i64 (c : Int)) (.slice A 0 k)
              generalize hwo8 : ((wm8.setCell ⟨w2.heap.size, 0, none⟩ (.int .i64 (c : Int))).setCell ⟨w2.heap.size, 1, none⟩ (.slice A 0 k)) = wo8 at B8 Fo8
              have FF8 := Fz8.trans Fo8 (fun i hi (h : i = w2.heap.size) => by omega)
              obtain ⟨d8_0, d8_1⟩ := cells2 B8
              have G8 := FF8.at_ HG2_.out (fun x => x)
              obtain ⟨c9_0, c9_1⟩ := cells2 G8
              have z9_0 := frozen_of G8 0
              have z9_1 := frozen_of G8 1
              have B9 := put2y (y0 := .int .i64 (c : Int)) (y1 := .slice A 0 k) G8
              have Fo9 := (Fr.refl (fun i => i = gb) wo8).put2 (b := gb) (fun _ => rfl) (.int .i64 (c : Int)) (.slice A 0 k)
              generalize hwo9 : ((wo8.setCell ⟨gb, 0, none⟩ (.int .i64 (c : Int))).setCell ⟨gb, 1, none⟩ (.slice A 0 k)) = wo9 at B9 Fo9
              obtain ⟨d9_0, d9_1⟩ := cells2 B9
              have HG9 := Lib.hid B9
              have HM9 := Lib.hid ((((show Reads RInt.E wr A 0 [] from HM.out).fr F2 (fun _ _ x => x)).fr FF8 (fun _ _ x => x)).fr Fo9 (fun ad h e => by have := HA.out ad h; have := HAP.out.pg; omega))
              have HR9 := Lib.hid ((HR2_.out.fr FF8 (fun x => x) (fun x => x)).fr Fo9 (fun e => HAP.out.ngb e.symm) (fun e => HAP.out.nga e.symm))
              have HF9 := Lib.hid ((HF2.out.step FF8 nop).step Fo9 (fun i e => by have := HAP.out.pg; omega))
              have hs9 : B0 ≤ wo9.heap.size := by have := FF8.size; have := Fo9.size; omega
              go_wp2_with fail
              refine (RInt.Pop_no HR9.out).mono ?_
              rintro e wz ⟨rfl, Fz⟩
              have HBD : Hid (Bd W b a c gb B0 wz) := Lib.hid (Bd.mk HAP.out (l := []) (n := 0) rfl (HR9.out.fr Fz (fun x => x) (fun x => x)) HG9.out HM9.out (Nat.zero_le _) HA.out HF9.out hs9 (Fz.mono (fun _ _ x => x.elim)))
              clear Fz HG9 HM9 HR9 HF9 hs9
              clear c8_0 z8_0 c8_1 z8_1 d8_0 d8_1 Bz8 Fz8 Fo8 hwm8 hwo8
              clear c9_0 z9_0 d9_0 c9_1 z9_1 d9_1 Fo9 hwo9
              clear B8 FF8 B9 G8 HG HR HF HM HF2 HG2_ HR2_ hs2_ F2
              clear HFM
              have HBD2 := HBD.out
              obtain ⟨l2, A2, k2, R2, G2, M2, hk2, hA2, FW2, hs2⟩ := HBD2
              have hc2 := R2.le
              have hc3 := R2.cap
              have HR2 := Lib.hid R2
              have HG2 := Lib.hid G2
              have HM2 := Lib.hid M2
              obtain ⟨n2, hn2⟩ : ∃ n, l2.length = n := ⟨_, rfl⟩
              rw [hn2] at HG2 HM2 hc2
              have HLN : Hid (∀ w', Fr (fun _ => False) wz w' → Calls Try.prog 13 #[.pointer (some ⟨b, 0, none⟩)] w' fun e w'' => e = .returned (.int .i64 (n2 : Int)) ∧ Fr (fun _ => False) wz w'') := Lib.hid (fun w' h => (RInt.Len (HR2.out.fr h (fun x => x) (fun x => x))).mono fun e w'' ⟨h1, h2⟩ => ⟨by rw [h1, hn2], by subst h2; exact h⟩)
              have HAL : Hid (∀ w', Fr (fun _ => False) wz w' → Calls Try.prog 16 #[.pointer (some ⟨b, 0, none⟩)] w' fun e w'' => ∃ A' k', e = .returned (.slice A' n2 k') ∧ Reads RInt.E w'' A' n2 l2 ∧ Fr (fun _ => False) wz w'') := Lib.hid (fun w' h => (RInt.All (HR2.out.fr h (fun x => x) (fun x => x))).mono fun e w'' ⟨v, h1, h2, h3⟩ => by
                obtain ⟨A', k', hv, rd, _⟩ := h2.reads
                rw [hn2] at hv rd
                exact ⟨A', k', by rw [h1, hv], rd, h.step h3 nop⟩)
              have HSM : Hid (∀ w' A' k', Reads RInt.E w' A' n2 l2 → Fr (fun _ => False) wz w' → Calls Try.prog 15 #[.slice A' n2 k', .slice A2 n2 k2] w' fun e w'' => e = .returned (.bool true) ∧ Fr (fun _ => False) wz w'') := Lib.hid (fun w' A' k' h1 h2 => (Same w' A' A2 n2 n2 k' k2 l2 l2 h1 (HM2.out.fr h2 (fun _ _ x => x)) (by omega) (by omega)).mono fun e w'' ⟨h3, m, h4⟩ => ⟨by rw [h3]; unfold sameB; simp, by subst h4; exact h2.drewN m⟩)
              have HS : Hid (∀ w', Fr (fun _ => False) wz w' → w'.cell? ⟨gb, 1, none⟩ = some (.slice A2 n2 k2)) := Lib.hid (fun w' h => by rw [cell_of (h.at_ HG2.out (fun x => x))]; rfl)
              have hF0 : Fr (fun _ => False) wz wz.drew := (Fr.refl _ _).drew
              have hNN : ((n2 : Int) != (n2 : Int)) = false := by simp
              clear R2 G2 M2 hk2 hA2 FW2 hs2 hn2 hc3 hc2
              go_wp2_with fail
              go_region_held3 (fun w' => w'.cell? ⟨gb, 1, none⟩ = some (.slice A2 n2 k2))
                (first | exact HS.out _ (by assumption))
                (first
                  | (go_at_call 13; refine (HLN.out _ (by assumption)).mono ?_; rintro e wA ⟨rfl, FA⟩)
                  | (go_at_call 16; refine (HAL.out _ (by assumption)).mono ?_; rintro e wB ⟨A3, k3, rfl, RB, FB⟩)
                  | (go_at_call 15; refine (HSM.out _ _ _ (by assumption) (by assumption)).mono ?_; rintro e wC ⟨rfl, FC⟩))
              have HRL : Hid (RyRel W b a c gb B0 n (.int .i64 ((j : Int) + 1)) wC) := Lib.hid ⟨j + 1, by push_cast; rfl, by omega, HBD.out.calm FC⟩
              clear FA RB FB FC hF0 HLN HAL HSM HS HR2 HG2 HM2 HBD
              go_wp2
              go_roundw
              case rel => exact HRL.out
              case measure => simp [intOf] <;> omega
            | cons y l =>
              have HFM := Lib.hid (rpop_yes wr (c : Int) A l.length k y l HM.out (by simp at hlc2; omega) HKK.out)
              replace HG : Hid (wr.heap[gb]? = some (.cells #[.int .i64 (c : Int), .slice A (l.length + 1) k] 43 (0, 0))) := HG
              have HA6 : Hid (∀ ad, cutA A k 1 1 = some ad → B0 ≤ ad.block) := Lib.hid (fun ad h => by
                obtain ⟨zb', zo', hA', _⟩ := HM.out.plain (by simp)
                rw [hA'] at h
                rw [cutA_blk h]
                exact HA.out _ hA')
              obtain ⟨c0, c1⟩ := cells2 HG.out
              go_wp2_with fail
              refine (HFM.out).mono ?_
              rintro e w2 ⟨rfl, M5, F2⟩
              clear c0 c1
              have HF2 := Lib.hid (HF.out.step F2 nop)
              have HG2_ := Lib.hid (F2.at_ HG.out (fun x => x))
              have HR2_ := Lib.hid (HR.out.fr F2 (fun x => x) (fun x => x))
              have hs2_ : B0 ≤ w2.heap.size := by have := F2.size; omega
              have Bz8 : (w2.alloc (.cells #[.int .i64 0, .slice none 0 0] 43)).heap[w2.heap.size]? = some (.cells #[.int .i64 0, .slice none 0 0] 43 (0, 0)) := alloc_is _ rfl
              have Fz8 := (Fr.refl (fun _ => False) w2).alloc (.cells #[.int .i64 0, .slice none 0 0] 43)
              generalize hwm8 : w2.alloc (.cells #[.int .i64 0, .slice none 0 0] 43) = wm8 at Bz8 Fz8
              obtain ⟨c8_0, c8_1⟩ := cells2 Bz8
              have z8_0 := frozen_of Bz8 0
              have z8_1 := frozen_of Bz8 1
              have B8 := put2y (y0 := .int .i64 (c : Int)) (y1 := .slice (cutA A k 1 1) l.length (k - 1)) Bz8
              have Fo8 := (Fr.refl (fun i => i = w2.heap.size) wm8).put2 (b := w2.heap.size) (fun _ => rfl) (.int .i64 (c : Int)) (.slice (cutA A k 1 1) l.length (k - 1))
              generalize hwo8 : ((wm8.setCell ⟨w2.heap.size, 0, none⟩ (.int .i64 (c : Int))).setCell ⟨w2.heap.size, 1, none⟩ (.slice (cutA A k 1 1) l.length (k - 1))) = wo8 at B8 Fo8
              have FF8 := Fz8.trans Fo8 (fun i hi (h : i = w2.heap.size) => by omega)
              obtain ⟨d8_0, d8_1⟩ := cells2 B8
              have G8 := FF8.at_ HG2_.out (fun x => x)
              obtain ⟨c9_0, c9_1⟩ := cells2 G8
              have z9_0 := frozen_of G8 0
              have z9_1 := frozen_of G8 1
              have B9 := put2y (y0 := .int .i64 (c : Int)) (y1 := .slice (cutA A k 1 1) l.length (k - 1)) G8
              have Fo9 := (Fr.refl (fun i => i = gb) wo8).put2 (b := gb) (fun _ => rfl) (.int .i64 (c : Int)) (.slice (cutA A k 1 1) l.length (k - 1))
              generalize hwo9 : ((wo8.setCell ⟨gb, 0, none⟩ (.int .i64 (c : Int))).setCell ⟨gb, 1, none⟩ (.slice (cutA A k 1 1) l.length (k - 1))) = wo9 at B9 Fo9
              obtain ⟨d9_0, d9_1⟩ := cells2 B9
              have HG9 := Lib.hid B9
              have HM9 := Lib.hid ((M5.fr FF8 (fun _ _ x => x)).fr Fo9 (fun ad h e => by have := HA6.out ad h; have := HAP.out.pg; omega))
              have HR9 := Lib.hid ((HR2_.out.fr FF8 (fun x => x) (fun x => x)).fr Fo9 (fun e => HAP.out.ngb e.symm) (fun e => HAP.out.nga e.symm))
              have HF9 := Lib.hid ((HF2.out.step FF8 nop).step Fo9 (fun i e => by have := HAP.out.pg; omega))
              have hs9 : B0 ≤ wo9.heap.size := by have := FF8.size; have := Fo9.size; omega
              go_wp2_with fail
              refine (RInt.Pop_yes HR9.out).mono ?_
              rintro e wz ⟨rfl, Rz, Fz⟩
              have HBD : Hid (Bd W b a c gb B0 wz) := Lib.hid (Bd.mk HAP.out (l := l) (n := l.length) rfl Rz HG9.out HM9.out (by have := HKK.out; simp at this; omega) HA6.out HF9.out hs9 Fz)
              clear Rz Fz HG9 HM9 HR9 HF9 hs9
              clear c8_0 z8_0 c8_1 z8_1 d8_0 d8_1 Bz8 Fz8 Fo8 hwm8 hwo8
              clear c9_0 z9_0 d9_0 c9_1 z9_1 d9_1 Fo9 hwo9
              clear B8 FF8 B9 G8 HG HR HF HM HF2 HG2_ HR2_ hs2_ F2
              clear M5 HFM
              have HBD2 := HBD.out
              obtain ⟨l2, A2, k2, R2, G2, M2, hk2, hA2, FW2, hs2⟩ := HBD2
              have hc2 := R2.le
              have hc3 := R2.cap
              have HR2 := Lib.hid R2
              have HG2 := Lib.hid G2
              have HM2 := Lib.hid M2
              obtain ⟨n2, hn2⟩ : ∃ n, l2.length = n := ⟨_, rfl⟩
              rw [hn2] at HG2 HM2 hc2
              have HLN : Hid (∀ w', Fr (fun _ => False) wz w' → Calls Try.prog 13 #[.pointer (some ⟨b, 0, none⟩)] w' fun e w'' => e = .returned (.int .i64 (n2 : Int)) ∧ Fr (fun _ => False) wz w'') := Lib.hid (fun w' h => (RInt.Len (HR2.out.fr h (fun x => x) (fun x => x))).mono fun e w'' ⟨h1, h2⟩ => ⟨by rw [h1, hn2], by subst h2; exact h⟩)
              have HAL : Hid (∀ w', Fr (fun _ => False) wz w' → Calls Try.prog 16 #[.pointer (some ⟨b, 0, none⟩)] w' fun e w'' => ∃ A' k', e = .returned (.slice A' n2 k') ∧ Reads RInt.E w'' A' n2 l2 ∧ Fr (fun _ => False) wz w'') := Lib.hid (fun w' h => (RInt.All (HR2.out.fr h (fun x => x) (fun x => x))).mono fun e w'' ⟨v, h1, h2, h3⟩ => by
                obtain ⟨A', k', hv, rd, _⟩ := h2.reads
                rw [hn2] at hv rd
                exact ⟨A', k', by rw [h1, hv], rd, h.step h3 nop⟩)
              have HSM : Hid (∀ w' A' k', Reads RInt.E w' A' n2 l2 → Fr (fun _ => False) wz w' → Calls Try.prog 15 #[.slice A' n2 k', .slice A2 n2 k2] w' fun e w'' => e = .returned (.bool true) ∧ Fr (fun _ => False) wz w'') := Lib.hid (fun w' A' k' h1 h2 => (Same w' A' A2 n2 n2 k' k2 l2 l2 h1 (HM2.out.fr h2 (fun _ _ x => x)) (by omega) (by omega)).mono fun e w'' ⟨h3, m, h4⟩ => ⟨by rw [h3]; unfold sameB; simp, by subst h4; exact h2.drewN m⟩)
              have HS : Hid (∀ w', Fr (fun _ => False) wz w' → w'.cell? ⟨gb, 1, none⟩ = some (.slice A2 n2 k2)) := Lib.hid (fun w' h => by rw [cell_of (h.at_ HG2.out (fun x => x))]; rfl)
              have hF0 : Fr (fun _ => False) wz wz.drew := (Fr.refl _ _).drew
              have hNN : ((n2 : Int) != (n2 : Int)) = false := by simp
              clear R2 G2 M2 hk2 hA2 FW2 hs2 hn2 hc3 hc2
              go_wp2_with fail
              go_region_held3 (fun w' => w'.cell? ⟨gb, 1, none⟩ = some (.slice A2 n2 k2))
                (first | exact HS.out _ (by assumption))
                (first
                  | (go_at_call 13; refine (HLN.out _ (by assumption)).mono ?_; rintro e wA ⟨rfl, FA⟩)
                  | (go_at_call 16; refine (HAL.out _ (by assumption)).mono ?_; rintro e wB ⟨A3, k3, rfl, RB, FB⟩)
                  | (go_at_call 15; refine (HSM.out _ _ _ (by assumption) (by assumption)).mono ?_; rintro e wC ⟨rfl, FC⟩))
              have HRL : Hid (RyRel W b a c gb B0 n (.int .i64 ((j : Int) + 1)) wC) := Lib.hid ⟨j + 1, by push_cast; rfl, by omega, HBD.out.calm FC⟩
              clear FA RB FB FC hF0 HLN HAL HSM HS HR2 HG2 HM2 HBD
              go_wp2
              go_roundw
              case rel => exact HRL.out
              case measure => simp [intOf] <;> omega
          · have e2 : (y0 % 4 == 1) = false := by simp [q1]
            by_cases q2 : y0 % 4 = 2
            · have e3 : (y0 % 4 == 2) = true := by simp [q2]
              clear q0 q1 q2
              by_cases hc0 : c = 0
              · have HFM := Lib.hid (rforce_none_of wr (N := (c : Int)) (by omega) A l.length k y1)
                have HC0 := Lib.hid hc0
                clear hc0
                obtain ⟨c0, c1⟩ := cells2 HG.out
                go_wp2_with fail
                refine (HFM.out).mono ?_
                rintro e w2 ⟨rfl, F2⟩
                clear c0 c1
                have HF2 := Lib.hid (HF.out.step F2 nop)
                have HG2_ := Lib.hid (F2.at_ HG.out (fun x => x))
                have HR2_ := Lib.hid (HR.out.fr F2 (fun x => x) (fun x => x))
                have hs2_ : B0 ≤ w2.heap.size := by have := F2.size; omega
                have Bz8 : (w2.alloc (.cells #[.int .i64 0, .slice none 0 0] 43)).heap[w2.heap.size]? = some (.cells #[.int .i64 0, .slice none 0 0] 43 (0, 0)) := alloc_is _ rfl
                have Fz8 := (Fr.refl (fun _ => False) w2).alloc (.cells #[.int .i64 0, .slice none 0 0] 43)
                generalize hwm8 : w2.alloc (.cells #[.int .i64 0, .slice none 0 0] 43) = wm8 at Bz8 Fz8
                obtain ⟨c8_0, c8_1⟩ := cells2 Bz8
                have z8_0 := frozen_of Bz8 0
                have z8_1 := frozen_of Bz8 1
                have B8 := put2y (y0 := .int .i64 (c : Int)) (y1 := .slice A l.length k) Bz8
                have Fo8 := (Fr.refl (fun i => i = w2.heap.size) wm8).put2 (b := w2.heap.size) (fun _ => rfl) (.int .i64 (c : Int)) (.slice A l.length k)
                generalize hwo8 : ((wm8.setCell ⟨w2.heap.size, 0, none⟩ (.int .i64 (c : Int))).setCell ⟨w2.heap.size, 1, none⟩ (.slice A l.length k)) = wo8 at B8 Fo8
                have FF8 := Fz8.trans Fo8 (fun i hi (h : i = w2.heap.size) => by omega)
                obtain ⟨d8_0, d8_1⟩ := cells2 B8
                have G8 := FF8.at_ HG2_.out (fun x => x)
                obtain ⟨c9_0, c9_1⟩ := cells2 G8
                have z9_0 := frozen_of G8 0
                have z9_1 := frozen_of G8 1
                have B9 := put2y (y0 := .int .i64 (c : Int)) (y1 := .slice A l.length k) G8
                have Fo9 := (Fr.refl (fun i => i = gb) wo8).put2 (b := gb) (fun _ => rfl) (.int .i64 (c : Int)) (.slice A l.length k)
                generalize hwo9 : ((wo8.setCell ⟨gb, 0, none⟩ (.int .i64 (c : Int))).setCell ⟨gb, 1, none⟩ (.slice A l.length k)) = wo9 at B9 Fo9
                obtain ⟨d9_0, d9_1⟩ := cells2 B9
                have HG9 := Lib.hid B9
                have HM9 := Lib.hid (((HM.out.fr F2 (fun _ _ x => x)).fr FF8 (fun _ _ x => x)).fr Fo9 (fun ad h e => by have := HA.out ad h; have := HAP.out.pg; omega))
                have HR9 := Lib.hid ((HR2_.out.fr FF8 (fun x => x) (fun x => x)).fr Fo9 (fun e => HAP.out.ngb e.symm) (fun e => HAP.out.nga e.symm))
                have HF9 := Lib.hid ((HF2.out.step FF8 nop).step Fo9 (fun i e => by have := HAP.out.pg; omega))
                have hs9 : B0 ≤ wo9.heap.size := by have := FF8.size; have := Fo9.size; omega
                go_wp2_with fail
                refine (RInt.Force_none (l := l) (b := b) (a := a) (by have h := HR9.out; rw [HC0.out] at h; exact h) y1).mono ?_
                rintro e wz ⟨rfl, Fz⟩
                have HBD : Hid (Bd W b a c gb B0 wz) := Lib.hid (Bd.mk HAP.out (l := l) (n := l.length) rfl (HR9.out.fr Fz (fun x => x) (fun x => x)) HG9.out HM9.out HKK.out HA.out HF9.out hs9 (Fz.mono (fun _ _ x => x.elim)))
                clear Fz HG9 HM9 HR9 HF9 hs9
                clear c8_0 z8_0 c8_1 z8_1 d8_0 d8_1 Bz8 Fz8 Fo8 hwm8 hwo8
                clear c9_0 z9_0 d9_0 c9_1 z9_1 d9_1 Fo9 hwo9
                clear B8 FF8 B9 G8 HG HR HF HM HF2 HG2_ HR2_ hs2_ F2
                clear HFM
                have HBD2 := HBD.out
                obtain ⟨l2, A2, k2, R2, G2, M2, hk2, hA2, FW2, hs2⟩ := HBD2
                have hc2 := R2.le
                have hc3 := R2.cap
                have HR2 := Lib.hid R2
                have HG2 := Lib.hid G2
                have HM2 := Lib.hid M2
                obtain ⟨n2, hn2⟩ : ∃ n, l2.length = n := ⟨_, rfl⟩
                rw [hn2] at HG2 HM2 hc2
                have HLN : Hid (∀ w', Fr (fun _ => False) wz w' → Calls Try.prog 13 #[.pointer (some ⟨b, 0, none⟩)] w' fun e w'' => e = .returned (.int .i64 (n2 : Int)) ∧ Fr (fun _ => False) wz w'') := Lib.hid (fun w' h => (RInt.Len (HR2.out.fr h (fun x => x) (fun x => x))).mono fun e w'' ⟨h1, h2⟩ => ⟨by rw [h1, hn2], by subst h2; exact h⟩)
                have HAL : Hid (∀ w', Fr (fun _ => False) wz w' → Calls Try.prog 16 #[.pointer (some ⟨b, 0, none⟩)] w' fun e w'' => ∃ A' k', e = .returned (.slice A' n2 k') ∧ Reads RInt.E w'' A' n2 l2 ∧ Fr (fun _ => False) wz w'') := Lib.hid (fun w' h => (RInt.All (HR2.out.fr h (fun x => x) (fun x => x))).mono fun e w'' ⟨v, h1, h2, h3⟩ => by
                  obtain ⟨A', k', hv, rd, _⟩ := h2.reads
                  rw [hn2] at hv rd
                  exact ⟨A', k', by rw [h1, hv], rd, h.step h3 nop⟩)
                have HSM : Hid (∀ w' A' k', Reads RInt.E w' A' n2 l2 → Fr (fun _ => False) wz w' → Calls Try.prog 15 #[.slice A' n2 k', .slice A2 n2 k2] w' fun e w'' => e = .returned (.bool true) ∧ Fr (fun _ => False) wz w'') := Lib.hid (fun w' A' k' h1 h2 => (Same w' A' A2 n2 n2 k' k2 l2 l2 h1 (HM2.out.fr h2 (fun _ _ x => x)) (by omega) (by omega)).mono fun e w'' ⟨h3, m, h4⟩ => ⟨by rw [h3]; unfold sameB; simp, by subst h4; exact h2.drewN m⟩)
                have HS : Hid (∀ w', Fr (fun _ => False) wz w' → w'.cell? ⟨gb, 1, none⟩ = some (.slice A2 n2 k2)) := Lib.hid (fun w' h => by rw [cell_of (h.at_ HG2.out (fun x => x))]; rfl)
                have hF0 : Fr (fun _ => False) wz wz.drew := (Fr.refl _ _).drew
                have hNN : ((n2 : Int) != (n2 : Int)) = false := by simp
                clear R2 G2 M2 hk2 hA2 FW2 hs2 hn2 hc3 hc2
                go_wp2_with fail
                go_region_held3 (fun w' => w'.cell? ⟨gb, 1, none⟩ = some (.slice A2 n2 k2))
                  (first | exact HS.out _ (by assumption))
                  (first
                    | (go_at_call 13; refine (HLN.out _ (by assumption)).mono ?_; rintro e wA ⟨rfl, FA⟩)
                    | (go_at_call 16; refine (HAL.out _ (by assumption)).mono ?_; rintro e wB ⟨A3, k3, rfl, RB, FB⟩)
                    | (go_at_call 15; refine (HSM.out _ _ _ (by assumption) (by assumption)).mono ?_; rintro e wC ⟨rfl, FC⟩))
                have HRL : Hid (RyRel W b a c gb B0 n (.int .i64 ((j : Int) + 1)) wC) := Lib.hid ⟨j + 1, by push_cast; rfl, by omega, HBD.out.calm FC⟩
                clear FA RB FB FC hF0 HLN HAL HSM HS HR2 HG2 HM2 HBD
                go_wp2
                go_roundw
                case rel => exact HRL.out
                case measure => simp [intOf] <;> omega
              · by_cases hlc : l.length < c
                · have HFM := Lib.hid (rforce_room wr (c : Int) A l.length k l y1 HM.out (by omega) (by omega))
                  obtain ⟨c0, c1⟩ := cells2 HG.out
                  go_wp2_with fail
                  refine (HFM.out).mono ?_
                  rintro e w2 ⟨A5, k5, rfl, M5, hk5, hA5, F2⟩
                  clear c0 c1
                  have HF2 := Lib.hid (HF.out.step F2 nop)
                  have HG2_ := Lib.hid (F2.at_ HG.out (fun x => x))
                  have HR2_ := Lib.hid (HR.out.fr F2 (fun x => x) (fun x => x))
                  have hs2_ : B0 ≤ w2.heap.size := by have := F2.size; omega
                  have hA6 : ∀ ad, A5 = some ad → B0 ≤ ad.block := fun ad h => by have := hA5 ad h; omega
                  have Bz8 : (w2.alloc (.cells #[.int .i64 0, .slice none 0 0] 43)).heap[w2.heap.size]? = some (.cells #[.int .i64 0, .slice none 0 0] 43 (0, 0)) := alloc_is _ rfl
                  have Fz8 := (Fr.refl (fun _ => False) w2).alloc (.cells #[.int .i64 0, .slice none 0 0] 43)
                  generalize hwm8 : w2.alloc (.cells #[.int .i64 0, .slice none 0 0] 43) = wm8 at Bz8 Fz8
                  obtain ⟨c8_0, c8_1⟩ := cells2 Bz8
                  have z8_0 := frozen_of Bz8 0
                  have z8_1 := frozen_of Bz8 1
                  have B8 := put2y (y0 := .int .i64 (c : Int)) (y1 := .slice A5 (l.length + 1) k5) Bz8
                  have Fo8 := (Fr.refl (fun i => i = w2.heap.size) wm8).put2 (b := w2.heap.size) (fun _ => rfl) (.int .i64 (c : Int)) (.slice A5 (l.length + 1) k5)
                  generalize hwo8 : ((wm8.setCell ⟨w2.heap.size, 0, none⟩ (.int .i64 (c : Int))).setCell ⟨w2.heap.size, 1, none⟩ (.slice A5 (l.length + 1) k5)) = wo8 at B8 Fo8
                  have FF8 := Fz8.trans Fo8 (fun i hi (h : i = w2.heap.size) => by omega)
                  obtain ⟨d8_0, d8_1⟩ := cells2 B8
                  have G8 := FF8.at_ HG2_.out (fun x => x)
                  obtain ⟨c9_0, c9_1⟩ := cells2 G8
                  have z9_0 := frozen_of G8 0
                  have z9_1 := frozen_of G8 1
                  have B9 := put2y (y0 := .int .i64 (c : Int)) (y1 := .slice A5 (l.length + 1) k5) G8
                  have Fo9 := (Fr.refl (fun i => i = gb) wo8).put2 (b := gb) (fun _ => rfl) (.int .i64 (c : Int)) (.slice A5 (l.length + 1) k5)
                  generalize hwo9 : ((wo8.setCell ⟨gb, 0, none⟩ (.int .i64 (c : Int))).setCell ⟨gb, 1, none⟩ (.slice A5 (l.length + 1) k5)) = wo9 at B9 Fo9
                  obtain ⟨d9_0, d9_1⟩ := cells2 B9
                  have HG9 := Lib.hid B9
                  have HM9 := Lib.hid ((M5.fr FF8 (fun _ _ x => x)).fr Fo9 (fun ad h e => by have := hA6 ad h; have := HAP.out.pg; omega))
                  have HR9 := Lib.hid ((HR2_.out.fr FF8 (fun x => x) (fun x => x)).fr Fo9 (fun e => HAP.out.ngb e.symm) (fun e => HAP.out.nga e.symm))
                  have HF9 := Lib.hid ((HF2.out.step FF8 nop).step Fo9 (fun i e => by have := HAP.out.pg; omega))
                  have hs9 : B0 ≤ wo9.heap.size := by have := FF8.size; have := Fo9.size; omega
                  have HA6 := Lib.hid hA6
                  have HK5 := Lib.hid hk5
                  go_wp2_with fail
                  refine (RInt.Force_room HR9.out y1 hlc).mono ?_
                  rintro e wz ⟨rfl, Rz, Fz⟩
                  have HBD : Hid (Bd W b a c gb B0 wz) := Lib.hid (Bd.mk HAP.out (l := (l ++ [y1])) (n := (l.length + 1)) (by rw [List.length_append]; rfl) Rz HG9.out HM9.out HK5.out HA6.out HF9.out hs9 Fz)
                  clear Rz Fz HG9 HM9 HR9 HF9 hs9
                  clear c8_0 z8_0 c8_1 z8_1 d8_0 d8_1 Bz8 Fz8 Fo8 hwm8 hwo8
                  clear c9_0 z9_0 d9_0 c9_1 z9_1 d9_1 Fo9 hwo9
                  clear B8 FF8 B9 G8 HG HR HF HM HF2 HG2_ HR2_ hs2_ F2
                  clear M5 hk5 hA5 hA6 HFM
                  have HBD2 := HBD.out
                  obtain ⟨l2, A2, k2, R2, G2, M2, hk2, hA2, FW2, hs2⟩ := HBD2
                  have hc2 := R2.le
                  have hc3 := R2.cap
                  have HR2 := Lib.hid R2
                  have HG2 := Lib.hid G2
                  have HM2 := Lib.hid M2
                  obtain ⟨n2, hn2⟩ : ∃ n, l2.length = n := ⟨_, rfl⟩
                  rw [hn2] at HG2 HM2 hc2
                  have HLN : Hid (∀ w', Fr (fun _ => False) wz w' → Calls Try.prog 13 #[.pointer (some ⟨b, 0, none⟩)] w' fun e w'' => e = .returned (.int .i64 (n2 : Int)) ∧ Fr (fun _ => False) wz w'') := Lib.hid (fun w' h => (RInt.Len (HR2.out.fr h (fun x => x) (fun x => x))).mono fun e w'' ⟨h1, h2⟩ => ⟨by rw [h1, hn2], by subst h2; exact h⟩)
                  have HAL : Hid (∀ w', Fr (fun _ => False) wz w' → Calls Try.prog 16 #[.pointer (some ⟨b, 0, none⟩)] w' fun e w'' => ∃ A' k', e = .returned (.slice A' n2 k') ∧ Reads RInt.E w'' A' n2 l2 ∧ Fr (fun _ => False) wz w'') := Lib.hid (fun w' h => (RInt.All (HR2.out.fr h (fun x => x) (fun x => x))).mono fun e w'' ⟨v, h1, h2, h3⟩ => by
                    obtain ⟨A', k', hv, rd, _⟩ := h2.reads
                    rw [hn2] at hv rd
                    exact ⟨A', k', by rw [h1, hv], rd, h.step h3 nop⟩)
                  have HSM : Hid (∀ w' A' k', Reads RInt.E w' A' n2 l2 → Fr (fun _ => False) wz w' → Calls Try.prog 15 #[.slice A' n2 k', .slice A2 n2 k2] w' fun e w'' => e = .returned (.bool true) ∧ Fr (fun _ => False) wz w'') := Lib.hid (fun w' A' k' h1 h2 => (Same w' A' A2 n2 n2 k' k2 l2 l2 h1 (HM2.out.fr h2 (fun _ _ x => x)) (by omega) (by omega)).mono fun e w'' ⟨h3, m, h4⟩ => ⟨by rw [h3]; unfold sameB; simp, by subst h4; exact h2.drewN m⟩)
                  have HS : Hid (∀ w', Fr (fun _ => False) wz w' → w'.cell? ⟨gb, 1, none⟩ = some (.slice A2 n2 k2)) := Lib.hid (fun w' h => by rw [cell_of (h.at_ HG2.out (fun x => x))]; rfl)
                  have hF0 : Fr (fun _ => False) wz wz.drew := (Fr.refl _ _).drew
                  have hNN : ((n2 : Int) != (n2 : Int)) = false := by simp
                  clear R2 G2 M2 hk2 hA2 FW2 hs2 hn2 hc3 hc2
                  go_wp2_with fail
                  go_region_held3 (fun w' => w'.cell? ⟨gb, 1, none⟩ = some (.slice A2 n2 k2))
                    (first | exact HS.out _ (by assumption))
                    (first
                      | (go_at_call 13; refine (HLN.out _ (by assumption)).mono ?_; rintro e wA ⟨rfl, FA⟩)
                      | (go_at_call 16; refine (HAL.out _ (by assumption)).mono ?_; rintro e wB ⟨A3, k3, rfl, RB, FB⟩)
                      | (go_at_call 15; refine (HSM.out _ _ _ (by assumption) (by assumption)).mono ?_; rintro e wC ⟨rfl, FC⟩))
                  have HRL : Hid (RyRel W b a c gb B0 n (.int .i64 ((j : Int) + 1)) wC) := Lib.hid ⟨j + 1, by push_cast; rfl, by omega, HBD.out.calm FC⟩
                  clear FA RB FB FC hF0 HLN HAL HSM HS HR2 HG2 HM2 HBD
                  go_wp2
                  go_roundw
                  case rel => exact HRL.out
                  case measure => simp [intOf] <;> omega
                · cases l with
                  | nil => exact absurd (Nat.pos_of_ne_zero hc0) hlc
                  | cons y l =>
                    have hlf : (y :: l).length = c := by omega
                    have HFM := Lib.hid (rforce_full wr (c : Int) A l.length k y l y1 HM.out (by simp at hlc2; omega) HKK.out (by simp at hlf; omega))
                    replace HG : Hid (wr.heap[gb]? = some (.cells #[.int .i64 (c : Int), .slice A (l.length + 1) k] 43 (0, 0))) := HG
                    obtain ⟨c0, c1⟩ := cells2 HG.out
                    go_wp2_with fail
                    refine (HFM.out).mono ?_
                    rintro e w2 ⟨A5, k5, rfl, M5, hk5, hA5, F2⟩
                    clear c0 c1
                    have HF2 := Lib.hid (HF.out.step F2 nop)
                    have HG2_ := Lib.hid (F2.at_ HG.out (fun x => x))
                    have HR2_ := Lib.hid (HR.out.fr F2 (fun x => x) (fun x => x))
                    have hs2_ : B0 ≤ w2.heap.size := by have := F2.size; omega
                    have hA6 : ∀ ad, A5 = some ad → B0 ≤ ad.block := fun ad h => by have := hA5 ad h; omega
                    have Bz8 : (w2.alloc (.cells #[.int .i64 0, .slice none 0 0] 43)).heap[w2.heap.size]? = some (.cells #[.int .i64 0, .slice none 0 0] 43 (0, 0)) := alloc_is _ rfl
                    have Fz8 := (Fr.refl (fun _ => False) w2).alloc (.cells #[.int .i64 0, .slice none 0 0] 43)
                    generalize hwm8 : w2.alloc (.cells #[.int .i64 0, .slice none 0 0] 43) = wm8 at Bz8 Fz8
                    obtain ⟨c8_0, c8_1⟩ := cells2 Bz8
                    have z8_0 := frozen_of Bz8 0
                    have z8_1 := frozen_of Bz8 1
                    have B8 := put2y (y0 := .int .i64 (c : Int)) (y1 := .slice A5 (l.length + 1) k5) Bz8
                    have Fo8 := (Fr.refl (fun i => i = w2.heap.size) wm8).put2 (b := w2.heap.size) (fun _ => rfl) (.int .i64 (c : Int)) (.slice A5 (l.length + 1) k5)
                    generalize hwo8 : ((wm8.setCell ⟨w2.heap.size, 0, none⟩ (.int .i64 (c : Int))).setCell ⟨w2.heap.size, 1, none⟩ (.slice A5 (l.length + 1) k5)) = wo8 at B8 Fo8
                    have FF8 := Fz8.trans Fo8 (fun i hi (h : i = w2.heap.size) => by omega)
                    obtain ⟨d8_0, d8_1⟩ := cells2 B8
                    have G8 := FF8.at_ HG2_.out (fun x => x)
                    obtain ⟨c9_0, c9_1⟩ := cells2 G8
                    have z9_0 := frozen_of G8 0
                    have z9_1 := frozen_of G8 1
                    have B9 := put2y (y0 := .int .i64 (c : Int)) (y1 := .slice A5 (l.length + 1) k5) G8
                    have Fo9 := (Fr.refl (fun i => i = gb) wo8).put2 (b := gb) (fun _ => rfl) (.int .i64 (c : Int)) (.slice A5 (l.length + 1) k5)
                    generalize hwo9 : ((wo8.setCell ⟨gb, 0, none⟩ (.int .i64 (c : Int))).setCell ⟨gb, 1, none⟩ (.slice A5 (l.length + 1) k5)) = wo9 at B9 Fo9
                    obtain ⟨d9_0, d9_1⟩ := cells2 B9
                    have HG9 := Lib.hid B9
                    have HM9 := Lib.hid ((M5.fr FF8 (fun _ _ x => x)).fr Fo9 (fun ad h e => by have := hA6 ad h; have := HAP.out.pg; omega))
                    have HR9 := Lib.hid ((HR2_.out.fr FF8 (fun x => x) (fun x => x)).fr Fo9 (fun e => HAP.out.ngb e.symm) (fun e => HAP.out.nga e.symm))
                    have HF9 := Lib.hid ((HF2.out.step FF8 nop).step Fo9 (fun i e => by have := HAP.out.pg; omega))
                    have hs9 : B0 ≤ wo9.heap.size := by have := FF8.size; have := Fo9.size; omega
                    have HA6 := Lib.hid hA6
                    have HK5 := Lib.hid hk5
                    go_wp2_with fail
                    refine (RInt.Force_full HR9.out y1 (by simp at hlf; omega)).mono ?_
                    rintro e wz ⟨rfl, Rz, Fz⟩
                    have HBD : Hid (Bd W b a c gb B0 wz) := Lib.hid (Bd.mk HAP.out (l := (l ++ [y1])) (n := (l.length + 1)) (by rw [List.length_append]; rfl) Rz HG9.out HM9.out HK5.out HA6.out HF9.out hs9 Fz)
                    clear Rz Fz HG9 HM9 HR9 HF9 hs9
                    clear c8_0 z8_0 c8_1 z8_1 d8_0 d8_1 Bz8 Fz8 Fo8 hwm8 hwo8
                    clear c9_0 z9_0 d9_0 c9_1 z9_1 d9_1 Fo9 hwo9
                    clear B8 FF8 B9 G8 HG HR HF HM HF2 HG2_ HR2_ hs2_ F2
                    clear M5 hk5 hA5 hA6 HFM
                    have HBD2 := HBD.out
                    obtain ⟨l2, A2, k2, R2, G2, M2, hk2, hA2, FW2, hs2⟩ := HBD2
                    have hc2 := R2.le
                    have hc3 := R2.cap
                    have HR2 := Lib.hid R2
                    have HG2 := Lib.hid G2
                    have HM2 := Lib.hid M2
                    obtain ⟨n2, hn2⟩ : ∃ n, l2.length = n := ⟨_, rfl⟩
                    rw [hn2] at HG2 HM2 hc2
                    have HLN : Hid (∀ w', Fr (fun _ => False) wz w' → Calls Try.prog 13 #[.pointer (some ⟨b, 0, none⟩)] w' fun e w'' => e = .returned (.int .i64 (n2 : Int)) ∧ Fr (fun _ => False) wz w'') := Lib.hid (fun w' h => (RInt.Len (HR2.out.fr h (fun x => x) (fun x => x))).mono fun e w'' ⟨h1, h2⟩ => ⟨by rw [h1, hn2], by subst h2; exact h⟩)
                    have HAL : Hid (∀ w', Fr (fun _ => False) wz w' → Calls Try.prog 16 #[.pointer (some ⟨b, 0, none⟩)] w' fun e w'' => ∃ A' k', e = .returned (.slice A' n2 k') ∧ Reads RInt.E w'' A' n2 l2 ∧ Fr (fun _ => False) wz w'') := Lib.hid (fun w' h => (RInt.All (HR2.out.fr h (fun x => x) (fun x => x))).mono fun e w'' ⟨v, h1, h2, h3⟩ => by
                      obtain ⟨A', k', hv, rd, _⟩ := h2.reads
                      rw [hn2] at hv rd
                      exact ⟨A', k', by rw [h1, hv], rd, h.step h3 nop⟩)
                    have HSM : Hid (∀ w' A' k', Reads RInt.E w' A' n2 l2 → Fr (fun _ => False) wz w' → Calls Try.prog 15 #[.slice A' n2 k', .slice A2 n2 k2] w' fun e w'' => e = .returned (.bool true) ∧ Fr (fun _ => False) wz w'') := Lib.hid (fun w' A' k' h1 h2 => (Same w' A' A2 n2 n2 k' k2 l2 l2 h1 (HM2.out.fr h2 (fun _ _ x => x)) (by omega) (by omega)).mono fun e w'' ⟨h3, m, h4⟩ => ⟨by rw [h3]; unfold sameB; simp, by subst h4; exact h2.drewN m⟩)
                    have HS : Hid (∀ w', Fr (fun _ => False) wz w' → w'.cell? ⟨gb, 1, none⟩ = some (.slice A2 n2 k2)) := Lib.hid (fun w' h => by rw [cell_of (h.at_ HG2.out (fun x => x))]; rfl)
                    have hF0 : Fr (fun _ => False) wz wz.drew := (Fr.refl _ _).drew
                    have hNN : ((n2 : Int) != (n2 : Int)) = false := by simp
                    clear R2 G2 M2 hk2 hA2 FW2 hs2 hn2 hc3 hc2
                    go_wp2_with fail
                    go_region_held3 (fun w' => w'.cell? ⟨gb, 1, none⟩ = some (.slice A2 n2 k2))
                      (first | exact HS.out _ (by assumption))
                      (first
                        | (go_at_call 13; refine (HLN.out _ (by assumption)).mono ?_; rintro e wA ⟨rfl, FA⟩)
                        | (go_at_call 16; refine (HAL.out _ (by assumption)).mono ?_; rintro e wB ⟨A3, k3, rfl, RB, FB⟩)
                        | (go_at_call 15; refine (HSM.out _ _ _ (by assumption) (by assumption)).mono ?_; rintro e wC ⟨rfl, FC⟩))
                    have HRL : Hid (RyRel W b a c gb B0 n (.int .i64 ((j : Int) + 1)) wC) := Lib.hid ⟨j + 1, by push_cast; rfl, by omega, HBD.out.calm FC⟩
                    clear FA RB FB FC hF0 HLN HAL HSM HS HR2 HG2 HM2 HBD
                    go_wp2
                    go_roundw
                    case rel => exact HRL.out
                    case measure => simp [intOf] <;> omega
            · have e3 : (y0 % 4 == 2) = false := by simp [q2]
              clear q0 q1 q2
              by_cases hx0 : 0 ≤ y1
              · by_cases hx1 : y1 < (l.length : Int)
                · obtain ⟨ix, hixe⟩ : ∃ ix : Nat, y1 = (ix : Int) := ⟨y1.toNat, by omega⟩
                  subst hixe
                  have hix : ix < l.length := by omega
                  obtain ⟨i0, hii, hz0, hz1, hz2⟩ := info_parts RInt.infoE
                  have one := one_int l
                  obtain ⟨c0, c1⟩ := cells2 HG.out
                  go_wp2_with (at_builtin; refine append_rows RInt.E 3 rfl _ _ 22 rfl i0 _ 8 Try.underlying22 hii hz0 hz1 hz2 rfl B0 _ [] rfl (Own.nil _ _ _ _) A l.length k l rfl HM.out one ?c1 ?c2 ?c3 ?_)
                  case c1 => have h0 : ([] : List Int).length = 0 := rfl; unfold maxLen; omega
                  case c2 => have h0 : ([] : List Int).length = 0 := rfl; omega
                  case c3 => omega
                  intro v' w2 hown hgrow
                  have F2 : Fr (fun _ => False) wr w2 := (Fr.refl _ wr).grown hgrow (fun k hk => by cases hk)
                  obtain ⟨g, k5, rfl, hg0, hg1, hk5, zf, ⟨u, hu⟩, O3⟩ := own_set (show Own RInt.E 3 w2 B0 v' l from hown) (i := ix) hix (j : Int)
                  have F3 := (Fr.refl (fun i => i = g) w2).setCell (p := ⟨g, ix, none⟩) (fun _ => rfl) (.int .i64 (j : Int))
                  have G2_ := F2.at_ HG.out (fun x => x)
                  have hgg : gb ≠ g := by have := HAP.out.pg; omega
                  have G3 := F3.at_ G2_ hgg
                  have R3 := (HR.out.fr F2 (fun x => x) (fun x => x)).fr F3 (fun e => by have := HAP.out.pb; omega) (fun e => by have := HAP.out.pa; omega)
                  have F23 := (HF.out.step F2 nop).step F3 (fun i e => by have := HAP.out.pg; omega)
                  have hs3_ : B0 ≤ (w2.setCell ⟨g, ix, none⟩ (.int .i64 (j : Int))).heap.size := by have := F2.size; have := F3.size; omega
                  generalize hw3 : w2.setCell ⟨g, ix, none⟩ (.int .i64 (j : Int)) = w3 at O3 F3 G3 R3 F23 hs3_
                  obtain ⟨A6, k6, hv6, rd6, hA6⟩ := O3.reads
                  rw [List.length_set] at hv6 rd6
                  cases hv6
                  have kk0 := (cells2 G3).1
                  have kk1 := (cells2 G3).2
                  have zz1 := frozen_of G3 1
                  have G4 := set_at G3 1 (.slice (some ⟨g, 0, none⟩) l.length k5)
                  simp only [List.setIfInBounds_toArray, List.set_cons_succ, List.set_cons_zero] at G4
                  have F4 := (Fr.refl (fun i => i = gb) w3).setCell (p := ⟨gb, 1, none⟩) (fun _ => rfl) (.slice (some ⟨g, 0, none⟩) l.length k5)
                  generalize hw4 : w3.setCell ⟨gb, 1, none⟩ (.slice (some ⟨g, 0, none⟩) l.length k5) = w4 at G4 F4
                  have HG9 := Lib.hid G4
                  have HM9 := Lib.hid (rd6.fr F4 (fun ad h e => by cases h; exact hgg e.symm))
                  have HR9 := Lib.hid (R3.fr F4 (fun e => HAP.out.ngb e.symm) (fun e => HAP.out.nga e.symm))
                  have HF9 := Lib.hid (F23.step F4 (fun i e => by have := HAP.out.pg; omega))
                  have hs9 : B0 ≤ w4.heap.size := by have := F4.size; omega
                  have HA6 : Hid (∀ ad, (some ⟨g, 0, none⟩ : Option Addr) = some ad → B0 ≤ ad.block) := Lib.hid (fun ad h => by cases h; exact hg0)
                  have HK5 := Lib.hid hk5
                  have hixx : (ix : Int) < (l.length : Int) := by omega
                  clear hgrow hown F2 F3 G2_ G3 R3 F23 hs3_ O3 rd6 hA6 G4 F4 hii hz0 hz1 hz2 one
                  go_wp2_with fail
                  refine (RInt.Set_yes HR9.out ix (j : Int) hix).mono ?_
                  rintro e wz ⟨rfl, Rz, Fz⟩
                  have HBD : Hid (Bd W b a c gb B0 wz) := Lib.hid (Bd.mk HAP.out (l := l.set ix (j : Int)) (n := l.length) (by rw [List.length_set]) Rz HG9.out HM9.out HK5.out HA6.out HF9.out hs9 Fz)
                  clear Rz Fz HG9 HM9 HR9 HF9 hs9 hw3 hw4 kk0 kk1 zz1 zf hu HG HM HR HF
                  have HBD2 := HBD.out
                  obtain ⟨l2, A2, k2, R2, G2, M2, hk2, hA2, FW2, hs2⟩ := HBD2
                  have hc2 := R2.le
                  have hc3 := R2.cap
                  have HR2 := Lib.hid R2
                  have HG2 := Lib.hid G2
                  have HM2 := Lib.hid M2
                  obtain ⟨n2, hn2⟩ : ∃ n, l2.length = n := ⟨_, rfl⟩
                  rw [hn2] at HG2 HM2 hc2
                  have HLN : Hid (∀ w', Fr (fun _ => False) wz w' → Calls Try.prog 13 #[.pointer (some ⟨b, 0, none⟩)] w' fun e w'' => e = .returned (.int .i64 (n2 : Int)) ∧ Fr (fun _ => False) wz w'') := Lib.hid (fun w' h => (RInt.Len (HR2.out.fr h (fun x => x) (fun x => x))).mono fun e w'' ⟨h1, h2⟩ => ⟨by rw [h1, hn2], by subst h2; exact h⟩)
                  have HAL : Hid (∀ w', Fr (fun _ => False) wz w' → Calls Try.prog 16 #[.pointer (some ⟨b, 0, none⟩)] w' fun e w'' => ∃ A' k', e = .returned (.slice A' n2 k') ∧ Reads RInt.E w'' A' n2 l2 ∧ Fr (fun _ => False) wz w'') := Lib.hid (fun w' h => (RInt.All (HR2.out.fr h (fun x => x) (fun x => x))).mono fun e w'' ⟨v, h1, h2, h3⟩ => by
                    obtain ⟨A', k', hv, rd, _⟩ := h2.reads
                    rw [hn2] at hv rd
                    exact ⟨A', k', by rw [h1, hv], rd, h.step h3 nop⟩)
                  have HSM : Hid (∀ w' A' k', Reads RInt.E w' A' n2 l2 → Fr (fun _ => False) wz w' → Calls Try.prog 15 #[.slice A' n2 k', .slice A2 n2 k2] w' fun e w'' => e = .returned (.bool true) ∧ Fr (fun _ => False) wz w'') := Lib.hid (fun w' A' k' h1 h2 => (Same w' A' A2 n2 n2 k' k2 l2 l2 h1 (HM2.out.fr h2 (fun _ _ x => x)) (by omega) (by omega)).mono fun e w'' ⟨h3, m, h4⟩ => ⟨by rw [h3]; unfold sameB; simp, by subst h4; exact h2.drewN m⟩)
                  have HS : Hid (∀ w', Fr (fun _ => False) wz w' → w'.cell? ⟨gb, 1, none⟩ = some (.slice A2 n2 k2)) := Lib.hid (fun w' h => by rw [cell_of (h.at_ HG2.out (fun x => x))]; rfl)
                  have hF0 : Fr (fun _ => False) wz wz.drew := (Fr.refl _ _).drew
                  have hNN : ((n2 : Int) != (n2 : Int)) = false := by simp
                  clear R2 G2 M2 hk2 hA2 FW2 hs2 hn2 hc3 hc2
                  go_wp2_with fail
                  go_region_held3 (fun w' => w'.cell? ⟨gb, 1, none⟩ = some (.slice A2 n2 k2))
                    (first | exact HS.out _ (by assumption))
                    (first
                      | (go_at_call 13; refine (HLN.out _ (by assumption)).mono ?_; rintro e wA ⟨rfl, FA⟩)
                      | (go_at_call 16; refine (HAL.out _ (by assumption)).mono ?_; rintro e wB ⟨A3, k3, rfl, RB, FB⟩)
                      | (go_at_call 15; refine (HSM.out _ _ _ (by assumption) (by assumption)).mono ?_; rintro e wC ⟨rfl, FC⟩))
                  have HRL : Hid (RyRel W b a c gb B0 n (.int .i64 ((j : Int) + 1)) wC) := Lib.hid ⟨j + 1, by push_cast; rfl, by omega, HBD.out.calm FC⟩
                  clear FA RB FB FC hF0 HLN HAL HSM HS HR2 HG2 HM2 HBD
                  go_wp2
                  go_roundw
                  case rel => exact HRL.out
                  case measure => simp [intOf] <;> omega
                · have hno : y1 < 0 ∨ (l.length : Int) ≤ y1 := .inr (by omega)
                  obtain ⟨c0, c1⟩ := cells2 HG.out
                  go_wp2_with fail
                  refine (RInt.Set_no HR.out y1 (j : Int) hno).mono ?_
                  rintro e wz ⟨rfl, Fz⟩
                  have HBD : Hid (Bd W b a c gb B0 wz) := Lib.hid (Bd.mk HAP.out (l := l) (n := l.length) rfl (HR.out.fr Fz (fun x => x) (fun x => x)) HG.out HM.out HKK.out HA.out HF.out hs (Fz.mono (fun _ _ x => x.elim)))
                  clear Fz HG HM HR HF c0 c1
                  have HBD2 := HBD.out
                  obtain ⟨l2, A2, k2, R2, G2, M2, hk2, hA2, FW2, hs2⟩ := HBD2
                  have hc2 := R2.le
                  have hc3 := R2.cap
                  have HR2 := Lib.hid R2
                  have HG2 := Lib.hid G2
                  have HM2 := Lib.hid M2
                  obtain ⟨n2, hn2⟩ : ∃ n, l2.length = n := ⟨_, rfl⟩
                  rw [hn2] at HG2 HM2 hc2
                  have HLN : Hid (∀ w', Fr (fun _ => False) wz w' → Calls Try.prog 13 #[.pointer (some ⟨b, 0, none⟩)] w' fun e w'' => e = .returned (.int .i64 (n2 : Int)) ∧ Fr (fun _ => False) wz w'') := Lib.hid (fun w' h => (RInt.Len (HR2.out.fr h (fun x => x) (fun x => x))).mono fun e w'' ⟨h1, h2⟩ => ⟨by rw [h1, hn2], by subst h2; exact h⟩)
                  have HAL : Hid (∀ w', Fr (fun _ => False) wz w' → Calls Try.prog 16 #[.pointer (some ⟨b, 0, none⟩)] w' fun e w'' => ∃ A' k', e = .returned (.slice A' n2 k') ∧ Reads RInt.E w'' A' n2 l2 ∧ Fr (fun _ => False) wz w'') := Lib.hid (fun w' h => (RInt.All (HR2.out.fr h (fun x => x) (fun x => x))).mono fun e w'' ⟨v, h1, h2, h3⟩ => by
                    obtain ⟨A', k', hv, rd, _⟩ := h2.reads
                    rw [hn2] at hv rd
                    exact ⟨A', k', by rw [h1, hv], rd, h.step h3 nop⟩)
                  have HSM : Hid (∀ w' A' k', Reads RInt.E w' A' n2 l2 → Fr (fun _ => False) wz w' → Calls Try.prog 15 #[.slice A' n2 k', .slice A2 n2 k2] w' fun e w'' => e = .returned (.bool true) ∧ Fr (fun _ => False) wz w'') := Lib.hid (fun w' A' k' h1 h2 => (Same w' A' A2 n2 n2 k' k2 l2 l2 h1 (HM2.out.fr h2 (fun _ _ x => x)) (by omega) (by omega)).mono fun e w'' ⟨h3, m, h4⟩ => ⟨by rw [h3]; unfold sameB; simp, by subst h4; exact h2.drewN m⟩)
                  have HS : Hid (∀ w', Fr (fun _ => False) wz w' → w'.cell? ⟨gb, 1, none⟩ = some (.slice A2 n2 k2)) := Lib.hid (fun w' h => by rw [cell_of (h.at_ HG2.out (fun x => x))]; rfl)
                  have hF0 : Fr (fun _ => False) wz wz.drew := (Fr.refl _ _).drew
                  have hNN : ((n2 : Int) != (n2 : Int)) = false := by simp
                  clear R2 G2 M2 hk2 hA2 FW2 hs2 hn2 hc3 hc2
                  go_wp2_with fail
                  go_region_held3 (fun w' => w'.cell? ⟨gb, 1, none⟩ = some (.slice A2 n2 k2))
                    (first | exact HS.out _ (by assumption))
                    (first
                      | (go_at_call 13; refine (HLN.out _ (by assumption)).mono ?_; rintro e wA ⟨rfl, FA⟩)
                      | (go_at_call 16; refine (HAL.out _ (by assumption)).mono ?_; rintro e wB ⟨A3, k3, rfl, RB, FB⟩)
                      | (go_at_call 15; refine (HSM.out _ _ _ (by assumption) (by assumption)).mono ?_; rintro e wC ⟨rfl, FC⟩))
                  have HRL : Hid (RyRel W b a c gb B0 n (.int .i64 ((j : Int) + 1)) wC) := Lib.hid ⟨j + 1, by push_cast; rfl, by omega, HBD.out.calm FC⟩
                  clear FA RB FB FC hF0 HLN HAL HSM HS HR2 HG2 HM2 HBD
                  go_wp2
                  go_roundw
                  case rel => exact HRL.out
                  case measure => simp [intOf] <;> omega
              · have hno : y1 < 0 ∨ (l.length : Int) ≤ y1 := .inl (by omega)
                obtain ⟨c0, c1⟩ := cells2 HG.out
                go_wp2_with fail
                refine (RInt.Set_no HR.out y1 (j : Int) hno).mono ?_
                rintro e wz ⟨rfl, Fz⟩
                have HBD : Hid (Bd W b a c gb B0 wz) := Lib.hid (Bd.mk HAP.out (l := l) (n := l.length) rfl (HR.out.fr Fz (fun x => x) (fun x => x)) HG.out HM.out HKK.out HA.out HF.out hs (Fz.mono (fun _ _ x => x.elim)))
                clear Fz HG HM HR HF c0 c1
                have HBD2 := HBD.out
                obtain ⟨l2, A2, k2, R2, G2, M2, hk2, hA2, FW2, hs2⟩ := HBD2
                have hc2 := R2.le
                have hc3 := R2.cap
                have HR2 := Lib.hid R2
                have HG2 := Lib.hid G2
                have HM2 := Lib.hid M2
                obtain ⟨n2, hn2⟩ : ∃ n, l2.length = n := ⟨_, rfl⟩
                rw [hn2] at HG2 HM2 hc2
                have HLN : Hid (∀ w', Fr (fun _ => False) wz w' → Calls Try.prog 13 #[.pointer (some ⟨b, 0, none⟩)] w' fun e w'' => e = .returned (.int .i64 (n2 : Int)) ∧ Fr (fun _ => False) wz w'') := Lib.hid (fun w' h => (RInt.Len (HR2.out.fr h (fun x => x) (fun x => x))).mono fun e w'' ⟨h1, h2⟩ => ⟨by rw [h1, hn2], by subst h2; exact h⟩)
                have HAL : Hid (∀ w', Fr (fun _ => False) wz w' → Calls Try.prog 16 #[.pointer (some ⟨b, 0, none⟩)] w' fun e w'' => ∃ A' k', e = .returned (.slice A' n2 k') ∧ Reads RInt.E w'' A' n2 l2 ∧ Fr (fun _ => False) wz w'') := Lib.hid (fun w' h => (RInt.All (HR2.out.fr h (fun x => x) (fun x => x))).mono fun e w'' ⟨v, h1, h2, h3⟩ => by
                  obtain ⟨A', k', hv, rd, _⟩ := h2.reads
                  rw [hn2] at hv rd
                  exact ⟨A', k', by rw [h1, hv], rd, h.step h3 nop⟩)
                have HSM : Hid (∀ w' A' k', Reads RInt.E w' A' n2 l2 → Fr (fun _ => False) wz w' → Calls Try.prog 15 #[.slice A' n2 k', .slice A2 n2 k2] w' fun e w'' => e = .returned (.bool true) ∧ Fr (fun _ => False) wz w'') := Lib.hid (fun w' A' k' h1 h2 => (Same w' A' A2 n2 n2 k' k2 l2 l2 h1 (HM2.out.fr h2 (fun _ _ x => x)) (by omega) (by omega)).mono fun e w'' ⟨h3, m, h4⟩ => ⟨by rw [h3]; unfold sameB; simp, by subst h4; exact h2.drewN m⟩)
                have HS : Hid (∀ w', Fr (fun _ => False) wz w' → w'.cell? ⟨gb, 1, none⟩ = some (.slice A2 n2 k2)) := Lib.hid (fun w' h => by rw [cell_of (h.at_ HG2.out (fun x => x))]; rfl)
                have hF0 : Fr (fun _ => False) wz wz.drew := (Fr.refl _ _).drew
                have hNN : ((n2 : Int) != (n2 : Int)) = false := by simp
                clear R2 G2 M2 hk2 hA2 FW2 hs2 hn2 hc3 hc2
                go_wp2_with fail
                go_region_held3 (fun w' => w'.cell? ⟨gb, 1, none⟩ = some (.slice A2 n2 k2))
                  (first | exact HS.out _ (by assumption))
                  (first
                    | (go_at_call 13; refine (HLN.out _ (by assumption)).mono ?_; rintro e wA ⟨rfl, FA⟩)
                    | (go_at_call 16; refine (HAL.out _ (by assumption)).mono ?_; rintro e wB ⟨A3, k3, rfl, RB, FB⟩)
                    | (go_at_call 15; refine (HSM.out _ _ _ (by assumption) (by assumption)).mono ?_; rintro e wC ⟨rfl, FC⟩))
                have HRL : Hid (RyRel W b a c gb B0 n (.int .i64 ((j : Int) + 1)) wC) := Lib.hid ⟨j + 1, by push_cast; rfl, by omega, HBD.out.calm FC⟩
                clear FA RB FB FC hF0 HLN HAL HSM HS HR2 HG2 HM2 HBD
                go_wp2
                go_roundw
                case rel => exact HRL.out
                case measure => simp [intOf] <;> omega
      · have h3 : ¬ (j : Int) < (n : Int) := by omega
        obtain ⟨n0_, n1_⟩ := Calm.cells2 HG.out
        have HCP := Lib.hid (fun x : Calm wr => (RInt.Cap (HR.out.fr x.fr (fun x => x) (fun x => x))).mono fun e w'' (h : e = .returned (.int .i64 (c : Int)) ∧ x.to = w'') => (⟨h.1, by rw [← h.2]; exact Fr.refl _ _⟩ : e = .returned (.int .i64 (c : Int)) ∧ Fr (fun _ => False) x.to w''))
        go_wp2_with fail
        (refine wp_region_calm (by kernel_rfl) (by kernel_rfl) ?_; (repeat (go_big_quiet_step ((go_at_call 27; exact Calm.of (HCP.out _))))); refine wpQuiet_nil ?_; intro _ hwq0; obtain ⟨nq, hwq1⟩ := hwq0; subst hwq1)
        have F9 := HF.out.step nq.fr nop
        go_wp2
        go_ret
        exact ⟨rfl, F9.below⟩
  · have e0 : (100 : Int) < (n : Int) := by omega
    go_enter Try.func6, Try.ntmps6
    go_wp2_with fail
    refine (fits_any _).mono ?_
    rintro e w1 ⟨rfl, F1⟩
    go_wp2_with fail
    refine (fits_any _).mono ?_
    rintro e w2 ⟨rfl, F2⟩
    have HF := Lib.hid (F1.step F2 nop)
    go_wp2
    go_ret
    exact ⟨rfl, HF.out.below⟩

end Go.Proofs.Ytdgbmjpiicpnlaa
