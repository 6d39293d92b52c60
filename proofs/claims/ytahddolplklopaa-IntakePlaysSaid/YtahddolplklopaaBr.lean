/- Br. -/
import Derived.Test.YtahddolplklopaaChecked
import Derived.WalkKit
import Derived.Laws.IdiomCopy
import Derived.Deep.QuietTactic
import Derived.BigQuiet
import Derived.Lib.Hide
import Derived.OpenShut
import Derived.StillTailTactics
import Derived.Deep.RegionWith
import Derived.Deep.RegionLaw
import Derived.Deep.Slices
import Derived.Deep.RegionHeld3
import Derived.OwnWalk
import Derived.Test.YtahddolplklopaaBase
import Derived.Test.YtahddolplklopaaCalm
import Derived.Test.YtahddolplklopaaCalmT
import Derived.Test.YtahddolplklopaaCel
import Derived.Test.YtahddolplklopaaApp
import Derived.Test.YtahddolplklopaaRE
import Derived.Test.YtahddolplklopaaREB
import Derived.Test.YtahddolplklopaaREC
import Derived.Test.YtahddolplklopaaREA
import Derived.Test.YtahddolplklopaaBq
import Derived.Test.YtahddolplklopaaBp
import Derived.Test.YtahddolplklopaaBx
namespace Go.Proofs.Ytahddolplklopaa
open Go.RowKit
set_option linter.unusedVariables false
set_option linter.unusedSimpArgs false

/-! ### handbellref02: items -/
abbrev It := Int × Int × Bool × Int
def EIt : El It := ⟨fun y => [.int .u8 y.1, .int .i64 y.2.1, .bool y.2.2.1, .int .i64 y.2.2.2], 4, fun _ => rfl, by omega, (0, 0, false, 0)⟩
theorem infoIt : (Try.prog.info? 105).map (fun i => (i.zero, i.size, i.bytes)) = some (some (.agg #[.int .u8 0, .int .i64 0, .bool false, .int .i64 0]), 4, 32) := by kernel_rfl
theorem Reads.it {w : World} {b o n : Nat} {xs : List It} (h : Reads EIt w (some ⟨b, o, none⟩) n xs) {k : Nat} (hk : k < n) {y0 y1 y2 y3} (hy : xs.getD k EIt.z = (y0, y1, y2, y3)) :
    w.cell? ⟨b, o + k * 4, none⟩ = some (.int .u8 y0) ∧ w.cell? ⟨b, o + k * 4 + 1, none⟩ = some (.int .i64 y1) ∧ w.cell? ⟨b, o + k * 4 + 2, none⟩ = some (.bool y2) ∧ w.cell? ⟨b, o + k * 4 + 3, none⟩ = some (.int .i64 y3) := by
  refine ⟨?_, ?_, ?_, ?_⟩
  · have := h.cellj (j := 0) hk (by decide); rw [hy] at this; exact this
  · have := h.cellj (j := 1) hk (by decide); rw [hy] at this; exact this
  · have := h.cellj (j := 2) hk (by decide); rw [hy] at this; exact this
  · have := h.cellj (j := 3) hk (by decide); rw [hy] at this; exact this
/-- Those of a priority, in order. -/
def bnd (p : Int) (ms : List It) : List Ev := (ms.filter (fun y => decide (y.1 = p))).map (fun y => y.2)
theorem bnd_app (p : Int) (a b : List It) : bnd p (a ++ b) = bnd p a ++ bnd p b := by unfold bnd; rw [List.filter_append, List.map_append]
theorem bnd_one (p : Int) (y : It) : bnd p [y] = if y.1 = p then [y.2] else [] := by
  unfold bnd
  by_cases h : y.1 = p
  · simp [h]
  · simp [h]
theorem bnd_len (p : Int) (ms : List It) : (bnd p ms).length ≤ ms.length := by unfold bnd; rw [List.length_map]; exact List.length_filter_le _ _
theorem take_one {α : Type} {l : List α} {k : Nat} (h : k < l.length) (z : α) : l.take (k + 1) = l.take k ++ [l.getD k z] := by
  rw [List.take_add_one, List.getElem?_eq_getElem h]; simp [List.getD_eq_getElem?_getD, List.getElem?_eq_getElem h]
def RSRel (w : World) (n : Nat) (i : Value) (wr : World) : Prop := ∃ k : Nat, k ≤ n ∧ i = .int .i64 k ∧ ∃ m, wr = w.drewN m
set_option maxRecDepth 100000 in
set_option maxHeartbeats 3200000 in
theorem rsame (w : World) (A B : Option Addr) (n c d : Nat) (xs : List Ev) (hx : Reads RE.E w A n xs) (hy : Reads RE.E w B n xs) (hn : n ≤ 100000) :
    Calls Try.prog 20 #[.slice A n c, .slice B n d] w fun e w' => e = .returned (.bool true) ∧ Fr (fun _ => False) w w' := by
  have e0 : ((n : Int) != (n : Int)) = false := by simp
  go_enter Try.func20, Try.ntmps20
  go_wp2
  go_loopw [5] (fun i wr => RSRel w n i wr) (fun i _ => n - (intOf i).toNat)
  case atStart => exact ⟨0, Nat.zero_le _, rfl, 0, rfl⟩
  case round =>
    obtain ⟨k, hk, rfl, mm, rfl⟩ := hrel
    by_cases hlt : k < n
    · obtain ⟨b, o, rfl, _⟩ := hx.plain (by omega)
      obtain ⟨b', o', rfl, _⟩ := hy.plain (by omega)
      obtain ⟨y, hyk⟩ : ∃ y, xs.getD k RE.E.z = y := ⟨_, rfl⟩
      obtain ⟨y0, y1, y2⟩ := y
      obtain ⟨l0, l1, l2⟩ := hx.ev hlt hyk
      obtain ⟨m0, m1, m2⟩ := hy.ev hlt hyk
      have hlt' : (k : Int) < (n : Int) := by omega
      clear hyk
      go_wp2
      go_quiet (fail)
      go_wp2
      go_roundw
      case rel => exact ⟨k + 1, by omega, by simp, _, rfl⟩
      case measure => simp [intOf]; omega
    · obtain rfl : n = k := by omega
      go_wp2
      go_ret
      exact ⟨rfl, (Fr.refl _ w).drewN mm⟩
/-- A list that is read. -/
def RdPost (w : World) (l : List Ev) (e : Ending) (w' : World) : Prop := ∃ A c, e = .returned (.slice A l.length c) ∧ Reads RE.E w' A l.length l ∧ Fr (fun _ => False) w w'
def RbRel (w1 : World) (p : Int) (ms : List It) (v i : Value) (wr : World) : Prop :=
  ∃ k : Nat, k ≤ ms.length ∧ i = .int .i64 k ∧ Own RE.E 56 wr w1.heap.size v (bnd p (ms.take k)) ∧ Fr (fun _ => False) w1 wr
set_option maxRecDepth 100000 in
set_option maxHeartbeats 3200000 in
theorem rbnd (w : World) (r0 r1 r2 : Int) (A : Option Addr) (m cap : Nat) (ms : List It) (p : Int) (hr : Reads EIt w A m ms) (hm : m ≤ 1000) :
    Calls Try.prog 35 #[.agg #[.int .i64 r0, .int .i64 r1, .int .i64 r2, .slice A m cap], .int .u8 p] w (RdPost w (bnd p ms)) := by
  obtain ⟨i0, hii, hz0, hz1, hz2⟩ := info_parts RE.infoE
  have B := alloc_is (w := w) (n := w.heap.size) (.cells #[.int .i64 r0, .int .i64 r1, .int .i64 r2, .slice A m cap] 67) rfl
  have F := (Fr.refl (fun _ => False) w).alloc (.cells #[.int .i64 r0, .int .i64 r1, .int .i64 r2, .slice A m cap] 67)
  have r1_ := hr.alloc (.cells #[.int .i64 r0, .int .i64 r1, .int .i64 r2, .slice A m cap] 67)
  generalize hw1 : w.alloc (.cells #[.int .i64 r0, .int .i64 r1, .int .i64 r2, .slice A m cap] 67) = w1 at B F r1_
  have HB := Lib.hid B
  have HF := Lib.hid F
  have HR := Lib.hid r1_
  have hml := hr.1
  obtain ⟨c0, c1, c2, c3⟩ := cells4 B
  clear B F r1_ hr
  go_enter Try.func35, Try.ntmps35
  go_wp2_with fail
  clear c0 c1 c2 c3 hw1
  go_loopw [5, 6] (fun v i wr => RbRel w1 p ms v i wr) (fun _ i _ => m - (intOf i).toNat)
  case atStart => exact ⟨0, Nat.zero_le _, rfl, Own.nil _ _ _ _, Fr.refl _ _⟩
  case round =>
    obtain ⟨k, hk, rfl, O, Fr_⟩ := hrel
    obtain ⟨c0, c1, c2, c3⟩ := cells4 (Fr_.at_ HB.out (fun x => x))
    have HFR := Lib.hid Fr_
    have HO := Lib.hid O
    obtain ⟨A5, k5, hv5, rd5, _⟩ := O.reads
    have hsz := HFR.out.size
    by_cases hlt : k < m
    · have hlt' : (k : Int) < (m : Int) := by omega
      have rz := HR.out.fr HFR.out (fun _ _ x => x)
      obtain ⟨zb, zo, rfl, hzb⟩ := rz.plain (by omega)
      obtain ⟨y, hy⟩ : ∃ y, ms.getD k EIt.z = y := ⟨_, rfl⟩
      have htk := take_one (l := ms) (k := k) (by omega) EIt.z
      rw [hy] at htk
      obtain ⟨y0, y1, y2, y3⟩ := y
      obtain ⟨l0, l1, l2, l3⟩ := rz.it hlt hy
      have hblen := bnd_len p (ms.take k)
      have htl : (ms.take k).length ≤ 1000 := by rw [List.length_take]; omega
      clear O Fr_ rz hy rd5
      by_cases hp : y0 = p
      · have hnew : bnd p (ms.take (k + 1)) = bnd p (ms.take k) ++ [(y1, y2, y3)] := by rw [htk, bnd_app, bnd_one]; rw [if_pos hp]
        have HNEW := Lib.hid hnew
        clear hnew htk
        subst hp
        subst hv5
        obtain ⟨u, hu⟩ : ∃ u, bnd y0 (ms.take k) = u := ⟨_, rfl⟩
        rw [hu] at HO HNEW hblen
        rw [hu]
        clear hu
        go_wp2_with (at_builtin; refine append_one RE.E 56 rfl _ _ 53 rfl i0 _ 24 Try.underlying53 hii hz0 hz1 hz2 rfl w1.heap.size _ _ rfl (HO.out.alloc _) ⟨wr.heap.size, 0, none⟩ 1 (y1, y2, y3) rfl ?c1 ?c2 ?c3 ?c4 ?c5 ?_)
        case c1 => first | exact lit_cells (W := wr) (cs := [.int .i64 y1, .bool y2, .int .i64 y3]) rfl | exact fun j u hu => hu
        case c2 => intro u hu; simp [RE.E] at hu; rcases hu with rfl | rfl | rfl <;> rfl
        case c3 => unfold maxLen; omega
        case c4 => omega
        case c5 => first | omega | (simp; omega)
        intro v' w4 hown hgrow
        have HF4 := Lib.hid ((HFR.out.alloc (.cells #[.int .i64 y1, .bool y2, .int .i64 y3] 56)).grown hgrow (fun k hk => by have := (HO.out.blk k hk).1; omega))
        have HO4 := Lib.hid hown
        clear hgrow hown hii hz0 hz1 hz2
        go_wp2
        go_roundw
        case rel => exact ⟨k + 1, by omega, by go_num, by rw [HNEW.out]; exact HO4.out, HF4.out⟩
        case measure => simp [intOf] <;> omega
      · have hp' : (y0 == p) = false := by simp [hp]
        have hnew : bnd p (ms.take (k + 1)) = bnd p (ms.take k) := by rw [htk, bnd_app, bnd_one]; rw [if_neg hp, List.append_nil]
        have HNEW := Lib.hid hnew
        clear hnew htk hp hii hz0 hz1 hz2 hv5
        go_wp2
        go_roundw
        case rel => exact ⟨k + 1, by omega, by go_num, by rw [HNEW.out]; exact HO.out, HFR.out⟩
        case measure => simp [intOf] <;> omega
    · have h3 : ¬ (k : Int) < (m : Int) := by omega
      have hall : ms.take k = ms := List.take_of_length_le (by omega)
      rw [hall] at HO rd5 hv5
      have HRD := Lib.hid rd5
      clear O Fr_ rd5 hii hz0 hz1 hz2 hall
      subst hv5
      go_wp2
      go_ret
      exact ⟨A5, k5, rfl, HRD.out, HF.out.step HFR.out nop⟩

end Go.Proofs.Ytahddolplklopaa
