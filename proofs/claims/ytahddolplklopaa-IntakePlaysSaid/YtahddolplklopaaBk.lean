/- Bk. -/
import Derived.Test.YtahddolplklopaaChecked
import Derived.WalkKit
import Derived.Laws.IdiomCopy
import Derived.Deep.QuietTactic
import Derived.BigQuiet
import Derived.Lib.Hide
import Derived.OpenShut
import Derived.StillTailTactics
import Derived.Deep.RegionWith
import Derived.Deep.RegionLaw
import Derived.Deep.Slices
import Derived.Deep.RegionHeld3
import Derived.OwnWalk
import Derived.Test.YtahddolplklopaaBase
import Derived.Test.YtahddolplklopaaCalm
import Derived.Test.YtahddolplklopaaCalmT
import Derived.Test.YtahddolplklopaaCel
import Derived.Test.YtahddolplklopaaApp
import Derived.Test.YtahddolplklopaaRE
import Derived.Test.YtahddolplklopaaREB
import Derived.Test.YtahddolplklopaaREC
import Derived.Test.YtahddolplklopaaREA
import Derived.Test.YtahddolplklopaaBq
import Derived.Test.YtahddolplklopaaBp
import Derived.Test.YtahddolplklopaaBx
import Derived.Test.YtahddolplklopaaBr
import Derived.Test.YtahddolplklopaaBk0
namespace Go.Proofs.Ytahddolplklopaa
open Go.RowKit
set_option linter.unusedVariables false
set_option linter.unusedSimpArgs false

/-! ### handbellref02.Take -/
theorem drew_at {w : World} {b : Nat} {o : Obj} (h : w.heap[b]? = some o) : w.drew.heap[b]? = some o := h
theorem Reads.drew_ {α : Type} {E : El α} {w : World} {A : Option Addr} {n : Nat} {xs : List α} (h : Reads E w A n xs) : Reads E w.drew A n xs := h.move (fun _ _ _ => rfl)
theorem one_it (ys : List It) : ∀ y ∈ ys, ∀ u ∈ EIt.enc y, u.oneCell' = true := fun y _ u hu => by simp [EIt] at hu; rcases hu with rfl | rfl | rfl | rfl <;> rfl
def RtRel (w1 : World) (ms : List It) (bst i : Value) (wr : World) : Prop :=
  ∃ k : Nat, i = .int .i64 k ∧ k ≤ ms.length ∧ (k = 0 ∧ bst = .int .i64 (-1) ∨ ∃ b : Nat, bst = .int .i64 b ∧ Bst ms k b) ∧ Fr (fun _ => False) w1 wr
def RkPost (w : World) (r0 r1 r2 : Int) (A : Option Addr) (m cap : Nat) (ms : List It) (e : Ending) (w' : World) : Prop :=
  (m = 0 ∧ e = .returned (.tuple #[.agg #[.int .i64 r0, .int .i64 r1, .int .i64 r2, .slice A 0 cap], .agg #[.int .i64 0, .bool false, .int .i64 0], .int .u8 0, .bool false]) ∧ Fr (fun _ => False) w w') ∨
  ∃ (b : Nat) (y0 y1 : Int) (y2 : Bool) (y3 : Int) (A' : Option Addr) (n' k' : Nat), Bst ms m b ∧ ms.getD b EIt.z = (y0, y1, y2, y3) ∧ n' + 1 = m ∧
    e = .returned (.tuple #[.agg #[.int .i64 r0, .int .i64 r1, .int .i64 r2, .slice A' n' k'], .agg #[.int .i64 y1, .bool y2, .int .i64 y3], .int .u8 y0, .bool true]) ∧
    Reads EIt w' A' n' (ms.take b ++ ms.drop (b + 1)) ∧ (∀ ad, A' = some ad → w.heap.size ≤ ad.block) ∧ n' ≤ k' ∧ Fr (fun _ => False) w w'
set_option maxRecDepth 100000 in
set_option maxHeartbeats 8000000 in
theorem rtake (w : World) (r0 r1 r2 : Int) (A : Option Addr) (m cap : Nat) (ms : List It) (hr : Reads EIt w A m ms) (hm : m ≤ 900) (hcap : m ≤ cap) :
    Calls Try.prog 32 #[.agg #[.int .i64 r0, .int .i64 r1, .int .i64 r2, .slice A m cap]] w (RkPost w r0 r1 r2 A m cap ms) := by
  have hml := hr.1
  have BE := alloc_is (w := (w.alloc (.cells #[.int .i64 r0, .int .i64 r1, .int .i64 r2, .slice A m cap] 67)).alloc (.cells #[.int .i64 0, .int .i64 0, .int .i64 0, .slice none 0 0] 67)) (n := w.heap.size + 2) (.cells #[.int .i64 0, .bool false, .int .i64 0] 56) (by simp)
  have BR := alloc_at (alloc_is (w := w.alloc (.cells #[.int .i64 r0, .int .i64 r1, .int .i64 r2, .slice A m cap] 67)) (n := w.heap.size + 1) (.cells #[.int .i64 0, .int .i64 0, .int .i64 0, .slice none 0 0] 67) (by simp)) (.cells #[.int .i64 0, .bool false, .int .i64 0] 56)
  have B := alloc_at (alloc_at (alloc_is (w := w) (n := w.heap.size) (.cells #[.int .i64 r0, .int .i64 r1, .int .i64 r2, .slice A m cap] 67) rfl) (.cells #[.int .i64 0, .int .i64 0, .int .i64 0, .slice none 0 0] 67)) (.cells #[.int .i64 0, .bool false, .int .i64 0] 56)
  have F := (((Fr.refl (fun _ => False) w).alloc (.cells #[.int .i64 r0, .int .i64 r1, .int .i64 r2, .slice A m cap] 67)).alloc (.cells #[.int .i64 0, .int .i64 0, .int .i64 0, .slice none 0 0] 67)).alloc (.cells #[.int .i64 0, .bool false, .int .i64 0] 56)
  generalize hw1 : ((w.alloc (.cells #[.int .i64 r0, .int .i64 r1, .int .i64 r2, .slice A m cap] 67)).alloc (.cells #[.int .i64 0, .int .i64 0, .int .i64 0, .slice none 0 0] 67)).alloc (.cells #[.int .i64 0, .bool false, .int .i64 0] 56) = w1 at B BE BR F
  have HB := Lib.hid B
  have HBE := Lib.hid BE
  have HBR := Lib.hid BR
  have HF := Lib.hid F
  have HSZ1 := Lib.hid (lt_of BE)
  have HRI : Hid (∀ W', Fr (fun _ => False) w W' → Reads EIt W' A m ms) := Lib.hid (fun W' h => hr.fr h (fun _ _ x => x))
  have HML := Lib.hid hml
  obtain ⟨c0, c1, c2, c3⟩ := cells4 B
  clear B BE BR F
  go_enter Try.func32, Try.ntmps32
  go_wp2_with fail
  clear hw1 c0 c1 c2 c3
  go_loopw [6, 7] (fun bst i wr => RtRel w1 ms bst i wr) (fun _ i _ => m - (intOf i).toNat)
  case atStart => exact ⟨0, rfl, Nat.zero_le _, .inl ⟨rfl, rfl⟩, Fr.refl _ _⟩
  case round =>
    obtain ⟨k, rfl, hk, hbst, F⟩ := hrel
    have HFR := Lib.hid F
    have HFW := Lib.hid (HF.out.step F nop)
    have HBw := Lib.hid (F.at_ HB.out (fun x => x))
    clear F
    obtain ⟨c0, c1, c2, c3⟩ := cells4 HBw.out
    by_cases hlt : k < m
    · have hlt' : (k : Int) < (m : Int) := by omega
      have rz := HRI.out _ HFW.out
      obtain ⟨zb, zo, rfl, hzb⟩ := rz.plain (by omega)
      obtain ⟨y, hy⟩ : ∃ y, ms.getD k EIt.z = y := ⟨_, rfl⟩
      obtain ⟨y0, y1, y2, y3⟩ := y
      obtain ⟨l0, l1, l2, l3⟩ := rz.it hlt hy
      rcases hbst with ⟨rfl, rfl⟩ | ⟨b, rfl, hB⟩
      · clear rz hy
        have hd : decide ((-1 : Int) < 0) = true := by decide
        go_wp2_with fail
        go_quiet (fail)
        have F9 := HFR.out.drewN nq
        go_wp2
        go_roundw
        case rel => exact ⟨1, by rfl, by have := HML.out; omega, .inr ⟨0, rfl, Bst.one ms⟩, F9⟩
        case measure => simp [intOf] <;> omega
      · have hbk : b < k := hB.1
        obtain ⟨x, hx⟩ : ∃ y, ms.getD b EIt.z = y := ⟨_, rfl⟩
        obtain ⟨x0, x1, x2, x3⟩ := x
        obtain ⟨m0, m1, m2, m3⟩ := rz.it (k := b) (by omega) hx
        have hb' : (b : Int) < (m : Int) := by omega
        have hb0 : decide ((b : Int) < 0) = false := by simp
        have HBS := Lib.hid hB
        have HHY := Lib.hid hy
        have HHX := Lib.hid hx
        clear rz hB hy hx
        by_cases hgt : x0 < y0
        · have hgt' : decide (x0 < y0) = true := by simp [hgt]
          have HNB := Lib.hid (HBS.out.new (by rw [HHX.out, HHY.out]; exact hgt))
          clear hgt
          go_wp2_with fail
          go_quiet (fail)
          have F9 := HFR.out.drewN nq
          go_wp2
          go_roundw
          case rel => exact ⟨k + 1, by go_num, by have := HML.out; omega, .inr ⟨k, rfl, HNB.out⟩, F9⟩
          case measure => simp [intOf] <;> omega
        · have hgt' : decide (x0 < y0) = false := by simp; omega
          have HNB := Lib.hid (HBS.out.old (by rw [HHX.out, HHY.out]; exact hgt))
          clear hgt
          go_wp2_with fail
          go_quiet (fail)
          have F9 := HFR.out.drewN nq
          go_wp2
          go_roundw
          case rel => exact ⟨k + 1, by go_num, by have := HML.out; omega, .inr ⟨b, rfl, HNB.out⟩, F9⟩
          case measure => simp [intOf] <;> omega
    · have h3 : ¬ (k : Int) < (m : Int) := by omega
      have hkm : k = m := by have := HML.out; omega
      subst hkm
      have HBRw := Lib.hid (HFR.out.at_ HBR.out (fun x => x))
      have HBEw := Lib.hid (HFR.out.at_ HBE.out (fun x => x))
      obtain ⟨k0, k1, k2, k3⟩ := cells4 HBRw.out
      obtain ⟨e0, e1, e2⟩ := cells3 HBEw.out
      rcases hbst with ⟨rfl, rfl⟩ | ⟨b, rfl, hB⟩
      · have z0 := frozen_of HBRw.out 0
        have z1 := frozen_of HBRw.out 1
        have z2 := frozen_of HBRw.out 2
        have z3 := frozen_of HBRw.out 3
        have v0 := frozen_of HBEw.out 0
        have v1 := frozen_of HBEw.out 1
        have v2 := frozen_of HBEw.out 2
        have B2 := put4y (y0 := .int .i64 r0) (y1 := .int .i64 r1) (y2 := .int .i64 r2) (y3 := .slice A 0 cap) HBRw.out
        have G2 := (Fr.refl (fun i => i = w.heap.size + 1) wr).put4 (b := w.heap.size + 1) (fun _ => rfl) (.int .i64 r0) (.int .i64 r1) (.int .i64 r2) (.slice A 0 cap)
        have F2 := HFW.out.put4 (b := w.heap.size + 1) (fun h => absurd h (by omega)) (.int .i64 r0) (.int .i64 r1) (.int .i64 r2) (.slice A 0 cap)
        have E2 := G2.at_ HBEw.out (fun h => by omega)
        generalize hwa : (((wr.setCell ⟨w.heap.size + 1, 0, none⟩ (.int .i64 r0)).setCell ⟨w.heap.size + 1, 1, none⟩ (.int .i64 r1)).setCell ⟨w.heap.size + 1, 2, none⟩ (.int .i64 r2)).setCell ⟨w.heap.size + 1, 3, none⟩ (.slice A 0 cap) = wa at B2 F2 E2
        have E3 := put3 (x' := .int .i64 0) (y' := .bool false) (z' := .int .i64 0) E2
        have G3 := (Fr.refl (fun i => i = w.heap.size + 2) wa).put3 (b := w.heap.size + 2) (fun _ => rfl) (.int .i64 0) (.bool false) (.int .i64 0)
        have F3 := F2.put3 (b := w.heap.size + 2) (fun h => absurd h (by omega)) (.int .i64 0) (.bool false) (.int .i64 0)
        have B3 := G3.at_ B2 (fun h => by omega)
        obtain ⟨f0, f1, f2⟩ := cells3 E2
        have g0 := frozen_of E2 0
        have g1 := frozen_of E2 1
        have g2 := frozen_of E2 2
        have HB3 := Lib.hid B3
        have HE3 := Lib.hid E3
        have HF3 := Lib.hid F3
        clear B2 G2 F2 E2 E3 G3 F3 B3
        go_wp2
        exact ret_cctt rfl rfl rfl rfl rfl HB3.out HE3.out Try.underlying67 rfl (by kernel_rfl) Try.underlying56 rfl (by kernel_rfl) (.inl ⟨rfl, rfl, HF3.out⟩)
      · have hbk : b < k := hB.1
        obtain ⟨i0, hii, hz0, hz1, hz2⟩ := info_parts infoIt
        have HBS := Lib.hid hB
        clear hB
        obtain ⟨x, hx⟩ : ∃ y, ms.getD b EIt.z = y := ⟨_, rfl⟩
        obtain ⟨x0, x1, x2, x3⟩ := x
        have HHX := Lib.hid hx
        have hb0 : ¬ (b : Int) < 0 := by omega
        have hbm' : (b : Int) < (k : Int) := by omega
        have hszw : w.heap.size + 2 < wr.heap.size := lt_of HBEw.out
        have Bz5 : (wr.alloc (.cells #[.int .i64 0, .int .i64 0, .int .i64 0, .slice none 0 0] 67)).heap[wr.heap.size]? = some (.cells #[.int .i64 0, .int .i64 0, .int .i64 0, .slice none 0 0] 67 (0, 0)) := alloc_is _ rfl
        have Fz5 := (Fr.refl (fun _ => False) wr).alloc (.cells #[.int .i64 0, .int .i64 0, .int .i64 0, .slice none 0 0] 67)
        generalize hwm5 : wr.alloc (.cells #[.int .i64 0, .int .i64 0, .int .i64 0, .slice none 0 0] 67) = wm5 at Bz5 Fz5
        obtain ⟨c5_0, c5_1, c5_2, c5_3⟩ := cells4 Bz5
        have z5_0 := frozen_of Bz5 0
        have z5_1 := frozen_of Bz5 1
        have z5_2 := frozen_of Bz5 2
        have z5_3 := frozen_of Bz5 3
        have B5 := put4y (y0 := .int .i64 r0) (y1 := .int .i64 r1) (y2 := .int .i64 r2) (y3 := .slice none 0 0) Bz5
        have Fo5 := (Fr.refl (fun i => i = wr.heap.size) wm5).put4 (b := wr.heap.size) (fun _ => rfl) (.int .i64 r0) (.int .i64 r1) (.int .i64 r2) (.slice none 0 0)
        generalize hwo5 : ((((wm5.setCell ⟨wr.heap.size, 0, none⟩ (.int .i64 r0)).setCell ⟨wr.heap.size, 1, none⟩ (.int .i64 r1)).setCell ⟨wr.heap.size, 2, none⟩ (.int .i64 r2)).setCell ⟨wr.heap.size, 3, none⟩ (.slice none 0 0)) = wo5 at B5 Fo5
        have FF5 := Fz5.trans Fo5 (fun i hi (h : i = wr.heap.size) => by omega)
        obtain ⟨d5_0, d5_1, d5_2, d5_3⟩ := cells4 B5
        have HFo := Lib.hid FF5
        have HG5 := Lib.hid B5
        have HF5 := Lib.hid (HFW.out.step FF5 nop)
        have hob : wr.heap.size < wo5.heap.size := lt_of B5
        clear hx FF5 B5
        have hpre : ∀ W, (Instr.slice 65 (.slice A k cap) none (some (.int .i64 (b : Int))) none).run Try.prog W = .ok (.slice A b cap) W := fun W => run_pre (P := Try.prog) 65 105 Try.underlying65 hii A k cap b (b : Int) rfl (by omega) W
        have HS : Hid (∀ w', Fr (fun _ => False) wo5 w' → w'.cell? ⟨w.heap.size, 3, none⟩ = some (.slice A k cap) ∧ w'.cell? ⟨wr.heap.size, 3, none⟩ = some (.slice none 0 0)) := Lib.hid (fun w' h => by
          have h1 := h.at_ (HFo.out.at_ HBw.out (fun x => x)) (fun x => x)
          have h2 := h.at_ HG5.out (fun x => x)
          exact ⟨by rw [cell_of h1]; rfl, by rw [cell_of h2]; rfl⟩)
        have HRD : Hid (∀ w', Fr (fun _ => False) wo5 w' → Reads EIt w' A b (ms.take b)) := Lib.hid (fun w' h => (HRI.out _ (HF5.out.step h nop)).pre (by omega))
        have HSZ : Hid (∀ w', Fr (fun _ => False) wo5 w' → wo5.heap.size ≤ w'.heap.size) := Lib.hid (fun w' h => h.size)
        have HGG : Hid (∀ w', Fr (fun _ => False) wo5 w' → w'.cell? ⟨wr.heap.size, 3, none⟩ = some (.slice none 0 0) ∧ w'.frozen? ⟨wr.heap.size, 3, none⟩ = false) := Lib.hid (fun w' h => ⟨(HS.out _ h).2, frozen_of (h.at_ HG5.out (fun x => x)) 3⟩)
        have one := one_it (ms.take b)
        have hl1 : b ≤ maxLen := by unfold maxLen; omega
        have hl2 : b * 32 ≤ 140737488355328 := by omega
        have hF0 : Fr (fun _ => False) wo5 wo5.drew := (Fr.refl _ _).drew
        have qc := (HS.out _ (Fr.refl _ _)).1
        have qo := (HS.out _ (Fr.refl _ _)).2
        go_wp2_with fail
        clear c5_0 z5_0 c5_1 z5_1 c5_2 z5_2 c5_3 z5_3 d5_0 d5_1 d5_2 d5_3 Bz5 Fz5 Fo5 hwm5 hwo5
        go_region_law (refine step_append_nil EIt 105 rfl (.tmp 42) (.tmp 46) 65 rfl i0 (.agg #[.int .u8 0, .int .i64 0, .bool false, .int .i64 0]) 32 Try.underlying65 hii hz0 hz1 hz2 rfl wo5.heap.size rfl A b cap (ms.take b) rfl (HRD.out _ hF0) one hl1 hl2 (HSZ.out _ hF0) ?_; intro A2 c2 w4 hown2 hgrow; have F4 : Fr (fun _ => False) wo5 w4 := hF0.grown hgrow (fun k hk => by cases hk); obtain ⟨g4, z4⟩ := HGG.out _ F4)
        all_goals
          have G6 := set_at (F4.at_ HG5.out (fun x => x)) 3 (.slice A2 b c2)
          simp only [List.setIfInBounds_toArray, List.set_cons_succ, List.set_cons_zero] at G6
          have F6 := (Fr.refl (fun i => i = wr.heap.size) w4).setCell (p := ⟨wr.heap.size, 3, none⟩) (fun _ => rfl) (.slice A2 b c2)
          have O6 := hown2.fr F6 (fun k hk e => by have := (hown2.blk k hk).1; omega)
          have FW6 := (HF5.out.step F4 nop).trans F6 (fun i hi (h : i = wr.heap.size) => by omega)
          have F56 := (F4.mono (S' := fun i => i = wr.heap.size) (fun _ _ x => x.elim)).trans F6 (fun _ _ h => h)
          have hs6 : wo5.heap.size ≤ (w4.setCell ⟨wr.heap.size, 3, none⟩ (.slice A2 b c2)).heap.size := by have := F4.size; have := F6.size; omega
          generalize hw6 : w4.setCell ⟨wr.heap.size, 3, none⟩ (.slice A2 b c2) = w6 at G6 F6 O6 FW6 F56 hs6 ⊢
          obtain ⟨n', hn'⟩ : ∃ n', n' + 1 = k := ⟨k - 1, by omega⟩
          have HO6 := Lib.hid O6
          have HG6 := Lib.hid G6
          have HFW6 := Lib.hid FW6
          have HF56 := Lib.hid F56
          have gsum : IntKind.i64.wrap ((b : Int) + 1) = (b : Int) + 1 := IntWalk.i64_in _ (by omega)
          have hcut : ∀ W, (Instr.slice 65 (.slice A k cap) (some (.int .i64 ((b : Int) + 1))) none none).run Try.prog W = .ok (.slice (cutA A cap (b + 1) 4) (k - (b + 1)) (cap - (b + 1))) W := fun W => by
            have := run_cut (P := Try.prog) 65 105 Try.underlying65 hii A k cap (b + 1) ((b : Int) + 1) (by push_cast; rfl) (by omega) W
            rw [hz1] at this; exact this
          have hbk1 : (b : Int) + 1 ≤ (k : Int) := by omega
          have b6 := cells4 (F56.at_ (HFo.out.at_ HBw.out (fun x => x)) (fun h => by omega))
          have p3 := b6.2.2.2
          have o3 := (cells4 G6).2.2.2
          have hF1 : Fr (fun _ => False) w6 w6.drew := (Fr.refl _ _).drew
          have HRC := Lib.hid ((HRI.out _ (FW6.step hF1 nop)).cut (k := b + 1) (by omega) hcap)
          have hl3 : n' ≤ maxLen := by unfold maxLen; omega
          have hl4 : n' * 32 ≤ 140737488355328 := by omega
          have hln : (ms.take b).length + (k - (b + 1)) = n' := by rw [List.length_take]; have := HML.out; omega
          have hsd : wo5.heap.size ≤ w6.drew.heap.size := hs6
          have one2 := one_it (ms.drop (b + 1))
          clear G6 F6 O6 FW6 F56 hgrow hown2 g4 z4 b6 hw6 one hl1 hl2
          go_wp2_with fail
          go_region_law (refine step_append_rows_n EIt 105 rfl (.tmp 50) (.tmp 55) 65 rfl i0 (.agg #[.int .u8 0, .int .i64 0, .bool false, .int .i64 0]) 32 Try.underlying65 hii hz0 hz1 hz2 rfl wo5.heap.size (.slice A2 b c2) (ms.take b) rfl (HO6.out.drewN 1) (cutA A cap (b + 1) 4) (k - (b + 1)) (cap - (b + 1)) (ms.drop (b + 1)) rfl HRC.out one2 hln hl3 hl4 hsd ?_; intro A3 c3_ w7 hown3 hgrow3; have F7 := (Fr.refl (fun i => wo5.heap.size ≤ i) w6).drew.grownS hgrow3 (fun k hk => (HO6.out.blk k hk).1); have G7 := F7.at_ HG6.out (fun h => by omega); have g7 := (cells4 G7).2.2.2; have z7 := frozen_of G7 3)
          all_goals
            have G8 := set_at G7 3 (.slice A3 n' c3_)
            simp only [List.setIfInBounds_toArray, List.set_cons_succ, List.set_cons_zero] at G8
            have F8 := (Fr.refl (fun i => i = wr.heap.size) w7).setCell (p := ⟨wr.heap.size, 3, none⟩) (fun _ => rfl) (.slice A3 n' c3_)
            have O8 := hown3.fr F8 (fun k hk e => by have := (hown3.blk k hk).1; omega)
            have FW8 := (HFW6.out.trans F7 (fun i hi (h : wo5.heap.size ≤ i) => by omega)).trans F8 (fun i hi (h : i = wr.heap.size) => by omega)
            have F58 := (HF56.out.trans (F7.mono (S' := fun i => i = wr.heap.size ∨ wo5.heap.size ≤ i) (fun _ _ x => .inr x)) (fun i hi h => h.elim id (fun h => by omega))).trans F8 (fun _ _ h => h)
            generalize hw8 : w7.setCell ⟨wr.heap.size, 3, none⟩ (.slice A3 n' c3_) = w8 at G8 F8 O8 FW8 F58 ⊢
            obtain ⟨A4, k4, hv4, R8, hA8⟩ := O8.reads
            have hc8 := own_cap (show Own EIt 105 w8 wo5.heap.size (.slice A3 n' c3_) (ms.take b ++ ms.drop (b + 1)) from O8)
            have hl8 : (ms.take b ++ ms.drop (b + 1)).length = n' := by rw [List.length_append, List.length_take, List.length_drop]; have := HML.out; omega
            rw [hl8] at hv4 R8
            obtain ⟨rfl, -, rfl⟩ : A3 = A4 ∧ True ∧ c3_ = k4 := by cases hv4; exact ⟨rfl, trivial, rfl⟩
            have B8 := F58.at_ (HFo.out.at_ HBw.out (fun x => x)) (fun h => by omega)
            have R2_ := F58.at_ (HFo.out.at_ HBRw.out (fun x => x)) (fun h => by omega)
            have E2_ := F58.at_ (HFo.out.at_ HBEw.out (fun x => x)) (fun h => by omega)
            have rz := HRI.out _ FW8
            obtain ⟨zb, zo, rfl, hzb8⟩ := rz.plain (by omega)
            obtain ⟨l0, l1, l2, l3⟩ := rz.it (k := b) (by omega) HHX.out
            have hzb : zb < w.heap.size := by obtain ⟨zb', zo', hA', hz'⟩ := (HRI.out _ (Fr.refl _ _)).plain (by omega); cases hA'; exact hz'
            obtain ⟨q0, q1, q2, q3⟩ := cells4 B8
            obtain ⟨o0, o1, o2, o3⟩ := cells4 G8
            obtain ⟨k0, k1, k2, k3⟩ := cells4 R2_
            obtain ⟨e0, e1, e2⟩ := cells3 E2_
            have z0 := frozen_of R2_ 0
            have z1 := frozen_of R2_ 1
            have z2 := frozen_of R2_ 2
            have z3 := frozen_of R2_ 3
            have v0 := frozen_of E2_ 0
            have v1 := frozen_of E2_ 1
            have v2 := frozen_of E2_ 2
            have n1 : ¬ zb = w.heap.size + 1 := by omega
            have n2 : ¬ zb = w.heap.size + 1 + 1 := by omega
            have n3 : ¬ w.heap.size + 1 = zb := by omega
            have n4 : ¬ w.heap.size + 1 + 1 = zb := by omega
            have n5 : ¬ wr.heap.size = w.heap.size + 1 := by omega
            have n6 : ¬ wr.heap.size = w.heap.size + 1 + 1 := by omega
            have n7 : ¬ w.heap.size + 1 = wr.heap.size := by omega
            have n8 : ¬ w.heap.size + 1 + 1 = wr.heap.size := by omega
            have X1 := put4y (y0 := .int .i64 r0) (y1 := .int .i64 r1) (y2 := .int .i64 r2) (y3 := .slice A3 n' c3_) R2_
            have FX1 := FW8.put4 (b := w.heap.size + 1) (fun h => absurd h (by omega)) (.int .i64 r0) (.int .i64 r1) (.int .i64 r2) (.slice A3 n' c3_)
            have GX1 := (Fr.refl (fun i => i = w.heap.size + 1) w8).put4 (b := w.heap.size + 1) (fun _ => rfl) (.int .i64 r0) (.int .i64 r1) (.int .i64 r2) (.slice A3 n' c3_)
            have E3_ := GX1.at_ (show w8.heap[w.heap.size + 1 + 1]? = _ from E2_) (fun h => by omega)
            have RX1 := R8.fr GX1 (fun ad h e => by have := hA8 ad h; omega)
            have X2 := put3 (x' := .int .i64 x1) (y' := .bool x2) (z' := .int .i64 x3) E3_
            have GX2 := (Fr.refl (fun i => i = w.heap.size + 1 + 1) (((((w8.setCell ⟨w.heap.size + 1, 0, none⟩ (.int .i64 r0)).setCell ⟨w.heap.size + 1, 1, none⟩ (.int .i64 r1)).setCell ⟨w.heap.size + 1, 2, none⟩ (.int .i64 r2)).setCell ⟨w.heap.size + 1, 3, none⟩ (.slice A3 n' c3_)))).put3 (b := w.heap.size + 1 + 1) (fun _ => rfl) (.int .i64 x1) (.bool x2) (.int .i64 x3)
            have X3 := GX2.at_ X1 (fun h => by omega)
            have HX2 := Lib.hid (drew_at X2)
            have HX3 := Lib.hid (drew_at X3)
            have HFX := Lib.hid ((FX1.put3 (b := w.heap.size + 1 + 1) (fun h => absurd h (by omega)) (.int .i64 x1) (.bool x2) (.int .i64 x3)).drew)
            have HRX := Lib.hid ((RX1.fr GX2 (fun ad h e => by have := hA8 ad h; omega)).drew_)
            have HA8 : Hid (∀ ad, A3 = some ad → w.heap.size ≤ ad.block) := Lib.hid (fun ad h => by have := hA8 ad h; omega)
            have HC8 : Hid (n' ≤ c3_) := Lib.hid hc8
            have HNK := Lib.hid hn'
            clear X1 FX1 GX1 E3_ RX1 X2 GX2 X3 G8 F8 O8 FW8 F58 R8 hA8 hc8 hv4 hl8 B8 R2_ E2_ rz G7 g7 z7 F7 hown3 hgrow3 hw8 hn' hln hl3 hl4 hsd hcut
            go_wp2_with fail
            go_big_region
            go_wp2
            exact ret_cctt rfl rfl rfl rfl rfl HX3.out HX2.out Try.underlying67 rfl (by kernel_rfl) Try.underlying56 rfl (by kernel_rfl) (.inr ⟨b, x0, x1, x2, x3, A3, n', c3_, HBS.out, HHX.out, HNK.out, rfl, HRX.out, HA8.out, HC8.out, HFX.out⟩)

end Go.Proofs.Ytahddolplklopaa
