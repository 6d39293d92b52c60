/- Sn. -/
import Derived.Test.YtbmhgkajjjiniaaChecked
import Derived.WalkKit
import Derived.Laws.IdiomCopy
import Derived.Deep.QuietTactic
import Derived.BigQuiet
import Derived.Lib.Hide
import Derived.OpenShut
import Derived.StillTailTactics
import Derived.Deep.RegionWith
import Derived.Deep.RegionLaw
import Derived.Deep.Slices
import Derived.Deep.RegionHeld3
import Derived.OwnWalk
import Derived.Test.YtbmhgkajjjiniaaBase
import Derived.Test.YtbmhgkajjjiniaaCalm
import Derived.Test.YtbmhgkajjjiniaaCalmT
import Derived.Test.YtbmhgkajjjiniaaCel
import Derived.Test.YtbmhgkajjjiniaaApp
import Derived.Test.YtbmhgkajjjiniaaClk
import Derived.Test.YtbmhgkajjjiniaaRV
import Derived.Test.YtbmhgkajjjiniaaRVB
import Derived.Test.YtbmhgkajjjiniaaRVC
import Derived.Test.YtbmhgkajjjiniaaRVA
import Derived.Test.YtbmhgkajjjiniaaCeS
import Derived.Test.YtbmhgkajjjiniaaCeF
import Derived.Test.YtbmhgkajjjiniaaCeG
import Derived.Test.YtbmhgkajjjiniaaCeN
import Derived.Test.YtbmhgkajjjiniaaCeX
namespace Go.Proofs.Ytbmhgkajjjiniaa
open Go.RowKit
set_option linter.unusedVariables false
set_option linter.unusedSimpArgs false

/-! ### handbellref10: good, Value, Oldest -/
abbrev Sn := Int × Int × Int × Int × Bool
def ESn : El Sn := ⟨fun y => [.int .i64 y.1, .int .i64 y.2.1, .int .u8 y.2.2.1, .int .i64 y.2.2.2.1, .bool y.2.2.2.2], 5, fun _ => rfl, by omega, (0, 0, 0, 0, false)⟩
theorem infoSn : (Try.prog.info? 42).map (fun i => (i.zero, i.size, i.bytes)) = some (some (.agg #[.int .i64 0, .int .i64 0, .int .u8 0, .int .i64 0, .bool false]), 5, 40) := by kernel_rfl
/-- The values of a signal. -/
def fs (k : Int) (l : List Sn) : List Sn := l.filter (fun y => decide (y.2.1 = k) && !y.2.2.2.2)
/-- The last sixteen of them. -/
def gd (k : Int) (l : List Sn) : List Sn := (fs k l).drop ((fs k l).length - 16)
def va (y : Sn) : Int × Int := (y.2.2.2.1, y.1)
theorem fs_len (k : Int) (l : List Sn) : (fs k l).length ≤ l.length := List.length_filter_le _ _
theorem gd_len (k : Int) (l : List Sn) : (gd k l).length ≤ 16 := by unfold gd; rw [List.length_drop]; omega
theorem take_snoc {l : List Sn} {j : Nat} (h : j < l.length) : l.take (j + 1) = l.take j ++ [l.getD j ESn.z] := by
  rw [List.take_add_one, List.getD_eq_getElem?_getD, List.getElem?_eq_getElem h]; rfl
theorem fs_yes {k : Int} {l : List Sn} {j : Nat} (h : j < l.length) {y0 y2 y3 : Int} (hy : l.getD j ESn.z = (y0, k, y2, y3, false)) : fs k (l.take (j + 1)) = fs k (l.take j) ++ [(y0, k, y2, y3, false)] := by
  rw [take_snoc h, hy]; unfold fs; rw [List.filter_append]; congr 1; simp
theorem fs_no {k : Int} {l : List Sn} {j : Nat} (h : j < l.length) {y0 y1 y2 y3 : Int} {y4 : Bool} (hy : l.getD j ESn.z = (y0, y1, y2, y3, y4)) (hn : ¬ y1 = k ∨ y4 = true) : fs k (l.take (j + 1)) = fs k (l.take j) := by
  rw [take_snoc h, hy]; unfold fs; rw [List.filter_append]
  have : List.filter (fun y : Sn => decide (y.2.1 = k) && !y.2.2.2.2) [(y0, y1, y2, y3, y4)] = [] := by
    rcases hn with hn | rfl <;> simp [*]
  rw [this, List.append_nil]
theorem Reads.cut {α : Type} {E : El α} {w : World} {A : Option Addr} {n c k : Nat} {xs : List α} (h : Reads E w A n xs) (hk : k ≤ n) (hc : n ≤ c) : Reads E w (cutA A c k E.sz) (n - k) (xs.drop k) := by
  unfold cutA
  refine ⟨by rw [List.length_drop, h.1], ?_⟩
  by_cases e : n - k = 0
  · exact .inl e
  · obtain ⟨ad, rfl, _⟩ := h.some_of (by omega)
    refine .inr ⟨ad.add (k * E.sz), by rw [if_neg (by omega)]; rfl, fun q j hq hj => ?_⟩
    rcases h.2 with h0 | ⟨ad', hA, hcell⟩
    · omega
    · cases hA
      have := hcell (k + q) j (by omega) hj
      rw [Deep.add_add, show k * E.sz + (q * E.sz + j) = (k + q) * E.sz + j from by rw [Nat.add_mul]; omega, this]
      congr 2
      simp [List.getD_eq_getElem?_getD, List.getElem?_drop]
theorem Reads.sn {w : World} {b o n : Nat} {xs : List Sn} (h : Reads ESn w (some ⟨b, o, none⟩) n xs) {k : Nat} (hk : k < n) {y0 y1 y2 y3 y4} (hy : xs.getD k ESn.z = (y0, y1, y2, y3, y4)) :
    w.cell? ⟨b, o + k * 5, none⟩ = some (.int .i64 y0) ∧ w.cell? ⟨b, o + k * 5 + 1, none⟩ = some (.int .i64 y1) ∧ w.cell? ⟨b, o + k * 5 + 2, none⟩ = some (.int .u8 y2) ∧ w.cell? ⟨b, o + k * 5 + 3, none⟩ = some (.int .i64 y3) ∧ w.cell? ⟨b, o + k * 5 + 4, none⟩ = some (.bool y4) := by
  refine ⟨?_, ?_, ?_, ?_, ?_⟩
  · have := h.cellj (j := 0) hk (by decide); rw [hy] at this; exact this
  · have := h.cellj (j := 1) hk (by decide); rw [hy] at this; exact this
  · have := h.cellj (j := 2) hk (by decide); rw [hy] at this; exact this
  · have := h.cellj (j := 3) hk (by decide); rw [hy] at this; exact this
  · have := h.cellj (j := 4) hk (by decide); rw [hy] at this; exact this
def GPost (w : World) (k : Int) (l : List Sn) (e : Ending) (w' : World) : Prop :=
  ∃ A c, e = .returned (.slice A (gd k l).length c) ∧ Reads ESn w' A (gd k l).length (gd k l) ∧ Fr (fun _ => False) w w'
def GdRel (w : World) (k : Int) (l : List Sn) (v i : Value) (wr : World) : Prop :=
  ∃ j : Nat, j ≤ l.length ∧ i = .int .i64 j ∧ Own ESn 42 wr w.heap.size v (fs k (l.take j)) ∧ Fr (fun _ => False) w wr
set_option maxRecDepth 100000 in
set_option maxHeartbeats 3200000 in
theorem good_any (w : World) (A : Option Addr) (n cap : Nat) (l : List Sn) (k : Int) (hr : Reads ESn w A n l) (hn : n ≤ 1000) :
    Calls Try.prog 43 #[.slice A n cap, .int .i64 k] w (GPost w k l) := by
  obtain ⟨i0, hi, hz0, hz1, hz2⟩ := info_parts infoSn
  obtain rfl : l.length = n := hr.1
  go_enter Try.func43, Try.ntmps43
  go_wp2_with fail
  go_loopw [5, 6] (fun v i wr => GdRel w k l v i wr) (fun _ i _ => l.length - (intOf i).toNat)
  case atStart => exact ⟨0, Nat.zero_le _, rfl, Own.nil _ _ _ _, Fr.refl _ _⟩
  case round =>
    obtain ⟨j, hj, rfl, hown, Fj⟩ := hrel
    by_cases hlt : j < l.length
    · have rj := hr.fr Fj (fun _ _ x => x)
      obtain ⟨b, o, rfl, _⟩ := rj.plain (by omega)
      obtain ⟨y, hy⟩ : ∃ y, l.getD j ESn.z = y := ⟨_, rfl⟩
      obtain ⟨y0, y1, y2, y3, y4⟩ := y
      obtain ⟨l0, l1, l2, l3, l4⟩ := rj.sn hlt hy
      have hlt' : (j : Int) < (l.length : Int) := by omega
      have HF := Lib.hid Fj
      have HO := Lib.hid hown
      by_cases h1 : y1 = k
      · subst h1
        cases y4
        · have HY := Lib.hid (fs_yes hlt hy)
          have hk0 : (fs y1 (l.take j)).length ≤ 1000 := by have := fs_len y1 (l.take j); rw [List.length_take] at this; omega
          clear hy rj Fj hown
          go_wp2_with (at_builtin; refine append_one ESn 42 rfl _ _ 33 rfl i0 _ 40 Try.underlying33 hi hz0 hz1 hz2 rfl w.heap.size _ _ rfl (HO.out.alloc _) ⟨wr.heap.size, 0, none⟩ 1 (y0, y1, y2, y3, false) rfl ?c1 ?c2 ?c3 ?c4 ?c5 ?_)
          case c1 => exact lit_cells (W := wr) (cs := [.int .i64 y0, .int .i64 y1, .int .u8 y2, .int .i64 y3, .bool false]) rfl
          case c2 => intro u hu; simp [ESn] at hu; rcases hu with rfl | rfl | rfl | rfl | rfl <;> rfl
          case c3 => unfold maxLen; omega
          case c4 => omega
          case c5 => have := HF.out.size; simp; omega
          intro v' w1 hown' hgrow
          have F1 : Fr (fun _ => False) w w1 := (HF.out.alloc _).grown hgrow (fun k hk => (HO.out.blk k hk).1)
          rw [← HY.out] at hown'
          clear hgrow l0 l1 l2 l3 l4
          go_wp2
          go_roundw
          case rel => exact ⟨j + 1, by omega, by go_num, hown', F1⟩
          case measure => simp [intOf]; omega
        · have HY := Lib.hid (fs_no (k := y1) hlt hy (.inr rfl))
          clear hy rj Fj hown
          go_wp2
          go_roundw
          case rel => exact ⟨j + 1, by omega, by go_num, by rw [HY.out]; exact HO.out, HF.out⟩
          case measure => simp [intOf]; omega
      · have HY := Lib.hid (fs_no (k := k) hlt hy (.inl h1))
        clear hy rj Fj hown
        go_wp2
        go_roundw
        case rel => exact ⟨j + 1, by omega, by go_num, by rw [HY.out]; exact HO.out, HF.out⟩
        case measure => simp [intOf]; omega
    · obtain rfl : j = l.length := by omega
      have h3 : ¬ (l.length : Int) < (l.length : Int) := by omega
      rw [List.take_length] at hown
      obtain ⟨A1, c1, rfl, q1, _⟩ := hown.reads
      have hcap := own_cap hown
      have HF := Lib.hid Fj
      obtain ⟨m, hm⟩ : ∃ m, (fs k l).length = m := ⟨_, rfl⟩
      rw [hm] at q1 hcap
      rw [hm]
      have HM := Lib.hid hm
      have hm' : m ≤ 1000 := by have := fs_len k l; omega
      clear hown Fj hm
      have hmx : c1 ≤ maxLen ∨ True := .inr trivial
      by_cases hc : 16 < m
      · have t1 : (16 : Int) < (m : Int) := by omega
        have hcut : ∀ x : Int, x = ((m - 16 : Nat) : Int) → ∀ W, (Instr.slice 33 (.slice A1 m c1) (some (.int .i64 x)) none none).run Try.prog W = .ok (.slice (cutA A1 c1 (m - 16) 5) 16 (c1 - (m - 16))) W := fun x hx W => by
          have := run_cut (P := Try.prog) 33 42 Try.underlying33 hi A1 m c1 (m - 16) x hx (by omega) W
          rw [hz1, show m - (m - 16) = 16 from by omega] at this; exact this
        have HC0 := hcut ((m : Int) - 16) (by omega)
        have r2 : Reads ESn wr (cutA A1 c1 (m - 16) 5) 16 (gd k l) := by
          have := q1.cut (k := m - 16) (by omega) hcap
          rw [show m - (m - 16) = 16 from by omega] at this
          unfold gd; rw [HM.out]; exact this
        have hg : Hid ((gd k l).length = 16) := Lib.hid r2.1
        have HR := Lib.hid r2
        clear r2 hcut hi hz0 hz1 hz2 q1
        go_wp2
        go_ret
        exact ⟨_, _, by rw [hg.out]; rfl, by rw [hg.out]; exact HR.out, HF.out⟩
      · have t1 : ¬ (16 : Int) < (m : Int) := by omega
        have hg : Hid (gd k l = fs k l) := Lib.hid (by unfold gd; rw [HM.out, show m - 16 = 0 from by omega, List.drop_zero])
        have HR := Lib.hid q1
        clear hi hz0 hz1 hz2 q1
        go_wp2
        go_ret
        exact ⟨_, _, by rw [hg.out, HM.out]; rfl, by rw [hg.out, HM.out]; exact HR.out, HF.out⟩
theorem gd_at {k : Int} {l : List Sn} {j : Nat} (h : j < (gd k l).length) : ((gd k l).map va).getD j RV.E.z = va ((gd k l).getD j ESn.z) := by
  simp [List.getD_eq_getElem?_getD, List.getElem?_map, List.getElem?_eq_getElem h]
set_option maxRecDepth 100000 in
set_option maxHeartbeats 3200000 in
theorem rvalue_any (w : World) (A : Option Addr) (n cap : Nat) (l : List Sn) (k : Int) (hr : Reads ESn w A n l) (hn : n ≤ 1000) :
    Calls Try.prog 28 #[.slice A n cap, .int .i64 k] w (VPost w (vl ((gd k l).map va))) := by
  go_enter Try.func28, Try.ntmps28
  go_wp2_with fail
  refine (good_any w A n cap l k hr hn).mono ?_
  rintro e w1 ⟨A1, c1, rfl, q1, F1⟩
  have h16 := gd_len k l
  have hgl : Hid (((gd k l).map va).length = (gd k l).length) := Lib.hid (List.length_map _)
  obtain ⟨m, hm⟩ : ∃ m, (gd k l).length = m := ⟨_, rfl⟩
  have HM := Lib.hid hm
  rw [hm] at q1 h16 ⊢
  clear hm
  by_cases h0 : m = 0
  · subst h0
    go_wp2
    go_ret3
    exact ⟨by unfold vl; rw [if_pos (by rw [hgl.out, HM.out])]; rfl, F1⟩
  · obtain ⟨b, o, rfl, _⟩ := q1.plain (by omega)
    obtain ⟨y, hy⟩ : ∃ y, (gd k l).getD (m - 1) ESn.z = y := ⟨_, rfl⟩
    obtain ⟨y0, y1, y2, y3, y4⟩ := y
    obtain ⟨l0, l1, l2, l3, l4⟩ := q1.sn (k := m - 1) (by omega) hy
    have HV : Hid (vl ((gd k l).map va) = (y3, y0, true)) := Lib.hid (by unfold vl; rw [hgl.out, HM.out, if_neg h0, gd_at (by rw [HM.out]; omega), hy]; rfl)
    have HF := Lib.hid F1
    clear hy F1 l1 l2 l4
    have t0 : (0 : Int) < (m : Int) := by omega
    have t1 : (0 : Int) ≤ (m : Int) - 1 := by omega
    have t2 : ((m : Int) - 1).toNat = m - 1 := by omega
    have t3 : (m : Int) - 1 < (m : Int) := by omega
    have g1 : IntKind.i64.wrap ((m : Int) - 1) = (m : Int) - 1 := IntWalk.i64_in _ (by omega)
    go_wp2_with fail
    go_quiet (fail)
    clear g1
    go_wp2
    go_ret3
    exact ⟨by rw [HV.out]; rfl, HF.out.drewN _⟩
def RoRel (w : World) (f : Int) (g : List Sn) (A : Option Addr) (i : Value) (wr : World) : Prop :=
  ∃ j : Nat, i = .int .i64 j ∧ j ≤ g.length ∧ (∀ k, k < j → ((g.map va).getD k RV.E.z).2 < f) ∧ Reads ESn wr A g.length g ∧ Fr (fun _ => False) w wr
theorem va_at {g : List Sn} {j : Nat} (h : j < g.length) : (g.map va).getD j RV.E.z = va (g.getD j ESn.z) := by
  simp [List.getD_eq_getElem?_getD, List.getElem?_map, List.getElem?_eq_getElem h]
set_option maxRecDepth 100000 in
set_option maxHeartbeats 3200000 in
theorem roldest_any (w : World) (A : Option Addr) (n cap : Nat) (l : List Sn) (k f : Int) (hr : Reads ESn w A n l) (hn : n ≤ 1000) :
    Calls Try.prog 45 #[.slice A n cap, .int .i64 k, .int .i64 f] w (OPost w (od f ((gd k l).map va))) := by
  obtain ⟨r, hrr⟩ : ∃ r, od f ((gd k l).map va) = r := ⟨_, rfl⟩
  rw [hrr]
  go_enter Try.func45, Try.ntmps45
  go_wp2_with fail
  refine (good_any w A n cap l k hr hn).mono ?_
  rintro e w1 ⟨A1, c1, rfl, q1, F1⟩
  have h16 := gd_len k l
  generalize gd k l = g at q1 h16 hrr ⊢
  have hml : Hid ((g.map va).length = g.length) := Lib.hid (List.length_map _)
  have HRR := Lib.hid hrr
  clear hrr
  go_wp2_with fail
  go_loopw [9] (fun i wr => RoRel w f g A1 i wr) (fun i _ => g.length - (intOf i).toNat)
  case atStart => exact ⟨0, rfl, Nat.zero_le _, fun k hk => by omega, q1, F1⟩
  case round =>
    clear q1 F1
    obtain ⟨j, rfl, hj, hall, rj, Fj⟩ := hrel
    have HALL := Lib.hid hall
    clear hall
    have HF := Lib.hid Fj
    by_cases hlt : j < g.length
    · obtain ⟨b, o, rfl, _⟩ := rj.plain (by omega)
      obtain ⟨y, hy⟩ : ∃ y, g.getD j ESn.z = y := ⟨_, rfl⟩
      obtain ⟨y0, y1, y2, y3, y4⟩ := y
      obtain ⟨l0, l1, l2, l3, l4⟩ := rj.sn hlt hy
      have HY : Hid ((g.map va).getD j RV.E.z = (y3, y0)) := Lib.hid (by rw [va_at hlt, hy]; rfl)
      have hlt' : (j : Int) < (g.length : Int) := by omega
      have HR := Lib.hid rj
      clear hy Fj rj
      by_cases hf : f ≤ y0
      · have HO := Lib.hid (od_at (l := g.map va) (by rw [hml.out]; exact hlt) HALL.out (by rw [HY.out]; exact hf))
        have HO2 : Hid (r = (y3, true)) := Lib.hid (by rw [← HRR.out, HO.out, HY.out])
        go_wp2
        go_ret2
        exact ⟨by rw [HO2.out]; rfl, HF.out⟩
      · have hf2 : ¬ f ≤ y0 := hf
        have HN : Hid (∀ k, k < j + 1 → ((g.map va).getD k RV.E.z).2 < f) := Lib.hid (fun k hk => by
          by_cases e : k = j
          · subst e; rw [HY.out]; simp only; omega
          · exact HALL.out k (by omega))
        go_wp2
        go_roundw
        case rel => exact ⟨j + 1, by go_num, by omega, HN.out, HR.out, HF.out⟩
        case measure => simp [intOf]; omega
    · have h3 : ¬ (j : Int) < (g.length : Int) := by omega
      have HO := Lib.hid (od_none (f := f) (l := g.map va) (fun k hk => HALL.out k (by rw [hml.out] at hk; omega)))
      have HO2 : Hid (r = (0, false)) := Lib.hid (by rw [← HRR.out, HO.out])
      clear hlt rj Fj
      go_wp2
      go_ret2
      exact ⟨by rw [HO2.out]; rfl, HF.out⟩

/-! ### handbellref10.Value, Oldest with the answer named -/
theorem Fr.grownS {S : Nat → Prop} {a w w' : World} {row : Option Nat} (h : Fr S a w) (hg : w.grownBy w' row) (hr : ∀ k, row = some k → S k) : Fr S a w' :=
  ⟨hg.os.trans h.os, hg.tape.trans h.tape, hg.output.trans h.output, Nat.le_trans h.size hg.size, fun i hi hn =>
    (hg.block i (Nat.lt_of_lt_of_le hi h.size) (fun e => hn (hr i e.symm))).trans (h.block i hi hn)⟩
theorem rvalue_r (w : World) (A : Option Addr) (n cap : Nat) (l : List Sn) (k : Int) (hr : Reads ESn w A n l) (hn : n ≤ 1000) {r : Int × Int × Bool} (h : vl ((gd k l).map va) = r) :
    Calls Try.prog 28 #[.slice A n cap, .int .i64 k] w (VPost w r) := by subst h; exact rvalue_any w A n cap l k hr hn
theorem roldest_r (w : World) (A : Option Addr) (n cap : Nat) (l : List Sn) (k f : Int) (hr : Reads ESn w A n l) (hn : n ≤ 1000) {r : Int × Bool} (h : od f ((gd k l).map va) = r) :
    Calls Try.prog 45 #[.slice A n cap, .int .i64 k, .int .i64 f] w (OPost w r) := by subst h; exact roldest_any w A n cap l k f hr hn

end Go.Proofs.Ytbmhgkajjjiniaa
