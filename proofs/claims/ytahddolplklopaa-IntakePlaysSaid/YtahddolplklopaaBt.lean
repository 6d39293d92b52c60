/- Bt. -/
import Derived.Test.YtahddolplklopaaChecked
import Derived.WalkKit
import Derived.Laws.IdiomCopy
import Derived.Deep.QuietTactic
import Derived.BigQuiet
import Derived.Lib.Hide
import Derived.OpenShut
import Derived.StillTailTactics
import Derived.Deep.RegionWith
import Derived.Deep.RegionLaw
import Derived.Deep.Slices
import Derived.Deep.RegionHeld3
import Derived.OwnWalk
import Derived.Test.YtahddolplklopaaBase
import Derived.Test.YtahddolplklopaaCalm
import Derived.Test.YtahddolplklopaaCalmT
import Derived.Test.YtahddolplklopaaCel
import Derived.Test.YtahddolplklopaaApp
import Derived.Test.YtahddolplklopaaRE
import Derived.Test.YtahddolplklopaaREB
import Derived.Test.YtahddolplklopaaREC
import Derived.Test.YtahddolplklopaaREA
import Derived.Test.YtahddolplklopaaBq
import Derived.Test.YtahddolplklopaaBp
import Derived.Test.YtahddolplklopaaBx
import Derived.Test.YtahddolplklopaaBr
import Derived.Test.YtahddolplklopaaBk0
namespace Go.Proofs.Ytahddolplklopaa
open Go.RowKit
set_option linter.unusedVariables false
set_option linter.unusedSimpArgs false

/-! ### handbellref02.Put -/
def rep (p : Int) (x : Ev) (y : It) : It := if y.1 = p ∧ y.2.1 = x.1 then (p, x) else y
def hasR (p r : Int) (ms : List It) : Bool := ms.any (fun y => decide (y.1 = p ∧ y.2.1 = r))
theorem hasR_app (p r : Int) (a b : List It) : hasR p r (a ++ b) = (hasR p r a || hasR p r b) := by unfold hasR; rw [List.any_append]
theorem rep_none {p : Int} {x : Ev} {ms : List It} (h : hasR p x.1 ms = false) : ms.map (rep p x) = ms := by
  unfold hasR at h
  rw [List.any_eq_false] at h
  conv => rhs; rw [← List.map_id ms]
  refine List.map_congr_left fun y hy => ?_
  have := h y hy
  unfold rep
  rw [if_neg (by simpa using this)]; rfl
/-- What Put answers, of a band that there is. -/
def putR (room : Nat) (ms : List It) (p : Int) (x : Ev) : Int × List It :=
  if hasR p x.1 ms = true then (0, ms.map (rep p x)) else if room ≤ (bnd p ms).length then (6, ms) else (0, ms ++ [(p, x)])
def RqPost (w : World) (r0 r1 r2 : Int) (A : Option Addr) (m : Nat) (c : Int) (ms : List It) (e : Ending) (w' : World) : Prop :=
  ∃ A' k, e = .returned (.tuple #[.agg #[.int .i64 r0, .int .i64 r1, .int .i64 r2, .slice A' ms.length k], .int .i64 c]) ∧ Reads EIt w' A' ms.length ms ∧ (∀ ad, A' = some ad → w.heap.size ≤ ad.block ∨ A' = A ∧ ms.length = m) ∧ ms.length ≤ k ∧ Fr (fun _ => False) w w'
def PuRel (w5 : World) (ob : Nat) (r0 r1 r2 p : Int) (x : Ev) (ms : List It) (f i : Value) (wr : World) : Prop :=
  ∃ (k : Nat) (v : Value), i = .int .i64 k ∧ k ≤ ms.length ∧ f = .bool (hasR p x.1 (ms.take k)) ∧ wr.heap[ob]? = some (.cells #[.int .i64 r0, .int .i64 r1, .int .i64 r2, v] 67 (0, 0)) ∧ Own EIt 105 wr w5.heap.size v ((ms.take k).map (rep p x)) ∧ Fr (fun b => b = ob) w5 wr
def qc (v : Value) (r0 r1 r2 : Int) : Array Value := #[.int .i64 r0, .int .i64 r1, .int .i64 r2, v]
set_option maxRecDepth 100000 in
set_option maxHeartbeats 8000000 in
theorem rput_no (w : World) (r0 r1 r2 : Int) (A : Option Addr) (m cap : Nat) (ms : List It) (p x0 : Int) (x1 : Bool) (x2 : Int) (hr : Reads EIt w A m ms) (hcap : m ≤ cap) (hp : p < 1 ∨ 3 < p) :
    Calls Try.prog 33 #[.agg #[.int .i64 r0, .int .i64 r1, .int .i64 r2, .slice A m cap], .int .u8 p, .agg #[.int .i64 x0, .bool x1, .int .i64 x2]] w (RqPost w r0 r1 r2 A m 1 ms) := by
  have hml := hr.1
  have BR := alloc_is (w := (w.alloc (.cells #[.int .i64 r0, .int .i64 r1, .int .i64 r2, .slice A m cap] 67)).alloc (.cells #[.int .i64 x0, .bool x1, .int .i64 x2] 56)) (n := w.heap.size + 2) (.cells #[.int .i64 0, .int .i64 0, .int .i64 0, .slice none 0 0] 67) (by simp)
  have B := alloc_at (alloc_at (alloc_is (w := w) (n := w.heap.size) (.cells #[.int .i64 r0, .int .i64 r1, .int .i64 r2, .slice A m cap] 67) rfl) (.cells #[.int .i64 x0, .bool x1, .int .i64 x2] 56)) (.cells #[.int .i64 0, .int .i64 0, .int .i64 0, .slice none 0 0] 67)
  have F := (((Fr.refl (fun _ => False) w).alloc (.cells #[.int .i64 r0, .int .i64 r1, .int .i64 r2, .slice A m cap] 67)).alloc (.cells #[.int .i64 x0, .bool x1, .int .i64 x2] 56)).alloc (.cells #[.int .i64 0, .int .i64 0, .int .i64 0, .slice none 0 0] 67)
  generalize hw1 : ((w.alloc (.cells #[.int .i64 r0, .int .i64 r1, .int .i64 r2, .slice A m cap] 67)).alloc (.cells #[.int .i64 x0, .bool x1, .int .i64 x2] 56)).alloc (.cells #[.int .i64 0, .int .i64 0, .int .i64 0, .slice none 0 0] 67) = w1 at B BR F
  obtain ⟨c0, c1, c2, c3⟩ := cells4 B
  obtain ⟨k0, k1, k2, k3⟩ := cells4 BR
  have z0 := frozen_of BR 0
  have z1 := frozen_of BR 1
  have z2 := frozen_of BR 2
  have z3 := frozen_of BR 3
  have B2 := put4y (y0 := .int .i64 r0) (y1 := .int .i64 r1) (y2 := .int .i64 r2) (y3 := .slice A m cap) BR
  have F2 := F.put4 (b := w.heap.size + 2) (fun h => absurd h (by omega)) (.int .i64 r0) (.int .i64 r1) (.int .i64 r2) (.slice A m cap)
  have HB := Lib.hid B2
  have HF := Lib.hid F2
  have HR := Lib.hid (hr.fr F2 (fun _ _ x => x))
  have HML := Lib.hid hml
  have HCAP := Lib.hid hcap
  clear B BR F B2 F2 hr hml hcap
  by_cases h1 : p < 1
  · clear hp
    go_enter Try.func33, Try.ntmps33
    go_wp2
    exact ret_ct rfl rfl rfl HB.out Try.underlying67 rfl (by kernel_rfl) ⟨A, cap, by rw [HML.out]; rfl, by rw [HML.out]; exact HR.out, fun ad h => .inr ⟨rfl, HML.out⟩, by rw [HML.out]; exact HCAP.out, HF.out⟩
  · have h3 : 3 < p := by omega
    clear hp
    go_enter Try.func33, Try.ntmps33
    go_wp2
    exact ret_ct rfl rfl rfl HB.out Try.underlying67 rfl (by kernel_rfl) ⟨A, cap, by rw [HML.out]; rfl, by rw [HML.out]; exact HR.out, fun ad h => .inr ⟨rfl, HML.out⟩, by rw [HML.out]; exact HCAP.out, HF.out⟩
set_option maxRecDepth 100000 in
set_option maxHeartbeats 8000000 in
theorem rput (w : World) (r0 r1 r2 : Int) (A : Option Addr) (m cap : Nat) (ms : List It) (p x0 : Int) (x1 : Bool) (x2 : Int) (hr : Reads EIt w A m ms) (hm : m ≤ 900) (hcap : m ≤ cap) {i : Nat} (hi : i < 3) (hp : p = (i : Int) + 1)
    {c : Int} {ms' : List It} (hres : putR (RE.room (tri r0 r1 r2 i)) ms p (x0, x1, x2) = (c, ms')) :
    Calls Try.prog 33 #[.agg #[.int .i64 r0, .int .i64 r1, .int .i64 r2, .slice A m cap], .int .u8 p, .agg #[.int .i64 x0, .bool x1, .int .i64 x2]] w (RqPost w r0 r1 r2 A m c ms') := by
  have hml := hr.1
  have BR := alloc_is (w := (w.alloc (.cells #[.int .i64 r0, .int .i64 r1, .int .i64 r2, .slice A m cap] 67)).alloc (.cells #[.int .i64 x0, .bool x1, .int .i64 x2] 56)) (n := w.heap.size + 2) (.cells #[.int .i64 0, .int .i64 0, .int .i64 0, .slice none 0 0] 67) (by simp)
  have BE := alloc_at (alloc_is (w := w.alloc (.cells #[.int .i64 r0, .int .i64 r1, .int .i64 r2, .slice A m cap] 67)) (n := w.heap.size + 1) (.cells #[.int .i64 x0, .bool x1, .int .i64 x2] 56) (by simp)) (.cells #[.int .i64 0, .int .i64 0, .int .i64 0, .slice none 0 0] 67)
  have B := alloc_at (alloc_at (alloc_is (w := w) (n := w.heap.size) (.cells #[.int .i64 r0, .int .i64 r1, .int .i64 r2, .slice A m cap] 67) rfl) (.cells #[.int .i64 x0, .bool x1, .int .i64 x2] 56)) (.cells #[.int .i64 0, .int .i64 0, .int .i64 0, .slice none 0 0] 67)
  have F := (((Fr.refl (fun _ => False) w).alloc (.cells #[.int .i64 r0, .int .i64 r1, .int .i64 r2, .slice A m cap] 67)).alloc (.cells #[.int .i64 x0, .bool x1, .int .i64 x2] 56)).alloc (.cells #[.int .i64 0, .int .i64 0, .int .i64 0, .slice none 0 0] 67)
  generalize hw1 : ((w.alloc (.cells #[.int .i64 r0, .int .i64 r1, .int .i64 r2, .slice A m cap] 67)).alloc (.cells #[.int .i64 x0, .bool x1, .int .i64 x2] 56)).alloc (.cells #[.int .i64 0, .int .i64 0, .int .i64 0, .slice none 0 0] 67) = w1 at B BE BR F
  obtain ⟨c0, c1, c2, c3⟩ := cells4 B
  have hsz1 := lt_of BR
  have Bz5 : (w1.alloc (.cells #[.int .i64 0, .int .i64 0, .int .i64 0, .slice none 0 0] 67)).heap[w1.heap.size]? = some (.cells #[.int .i64 0, .int .i64 0, .int .i64 0, .slice none 0 0] 67 (0, 0)) := alloc_is _ rfl
  have Fz5 := (Fr.refl (fun _ => False) w1).alloc (.cells #[.int .i64 0, .int .i64 0, .int .i64 0, .slice none 0 0] 67)
  generalize hwm5 : w1.alloc (.cells #[.int .i64 0, .int .i64 0, .int .i64 0, .slice none 0 0] 67) = wm5 at Bz5 Fz5
  obtain ⟨c5_0, c5_1, c5_2, c5_3⟩ := cells4 Bz5
  have z5_0 := frozen_of Bz5 0
  have z5_1 := frozen_of Bz5 1
  have z5_2 := frozen_of Bz5 2
  have z5_3 := frozen_of Bz5 3
  have B5 := put4y (y0 := .int .i64 r0) (y1 := .int .i64 r1) (y2 := .int .i64 r2) (y3 := .slice none 0 0) Bz5
  have Fo5 := (Fr.refl (fun i => i = w1.heap.size) wm5).put4 (b := w1.heap.size) (fun _ => rfl) (.int .i64 r0) (.int .i64 r1) (.int .i64 r2) (.slice none 0 0)
  generalize hwo5 : ((((wm5.setCell ⟨w1.heap.size, 0, none⟩ (.int .i64 r0)).setCell ⟨w1.heap.size, 1, none⟩ (.int .i64 r1)).setCell ⟨w1.heap.size, 2, none⟩ (.int .i64 r2)).setCell ⟨w1.heap.size, 3, none⟩ (.slice none 0 0)) = wo5 at B5 Fo5
  have FF5 := Fz5.trans Fo5 (fun i hi (h : i = w1.heap.size) => by omega)
  obtain ⟨d5_0, d5_1, d5_2, d5_3⟩ := cells4 B5
  have HB := Lib.hid (FF5.at_ B (fun x => x))
  have HBE := Lib.hid (FF5.at_ BE (fun x => x))
  have HBR := Lib.hid (FF5.at_ BR (fun x => x))
  have HF := Lib.hid (F.step FF5 nop)
  have HR := Lib.hid ((hr.fr F (fun _ _ x => x)).fr FF5 (fun _ _ x => x))
  have HZ : Hid (∀ ad, A = some ad → 0 < m → ad.block < w.heap.size) := Lib.hid (fun ad h h0 => by obtain ⟨zb, zo, h1, h2⟩ := hr.plain h0; rw [h1] at h; cases h; exact h2)
  have HML := Lib.hid hml
  have HRI : Hid (∀ W', Fr (fun _ => False) w W' → Reads EIt W' A m ms) := Lib.hid (fun W' h => hr.fr h (fun _ _ x => x))
  have HCAP := Lib.hid hcap
  clear hcap
  have HRES := Lib.hid hres
  have HR5 : Hid (PuRel wo5 w1.heap.size r0 r1 r2 p (x0, x1, x2) ms (.bool false) (.int .i64 0) wo5) := Lib.hid ⟨0, .slice none 0 0, rfl, Nat.zero_le _, rfl, B5, Own.nil _ _ _ _, Fr.refl _ _⟩
  have hp1 : 1 ≤ p := by omega
  have hp3 : p ≤ 3 := by omega
  have hob : w1.heap.size < wo5.heap.size := lt_of B5
  have HP := Lib.hid hp
  clear B BE BR F hr hres hp FF5 B5
  go_enter Try.func33, Try.ntmps33
  go_wp2_with fail
  clear c5_0 z5_0 c5_1 z5_1 c5_2 z5_2 c5_3 z5_3 d5_0 d5_1 d5_2 d5_3 Bz5 Fz5 Fo5 hwm5 hwo5
  clear hw1 c0 c1 c2 c3
  go_loopw [9, 10] (fun f i wr => PuRel wo5 w1.heap.size r0 r1 r2 p (x0, x1, x2) ms f i wr) (fun _ i _ => m - (intOf i).toNat)
  case atStart => exact HR5.out
  case round =>
    clear HR5
    obtain ⟨k, v, rfl, hk, hf, G, O, F⟩ := hrel
    obtain ⟨fb, hfb⟩ : ∃ b, hasR p x0 (ms.take k) = b := ⟨_, rfl⟩
    rw [show hasR p (((x0, x1, x2) : Ev)).1 (ms.take k) = fb from hfb] at hf
    subst hf
    have HG := Lib.hid G
    have HO := Lib.hid O
    have HFO_ := Lib.hid F
    have HFB := Lib.hid hfb
    have hmlen := HML.out
    clear G O F hfb
    have HBw := Lib.hid (HFO_.out.at_ HB.out (fun h => by omega))
    have HBEw := Lib.hid (HFO_.out.at_ HBE.out (fun h => by omega))
    have HBRw := Lib.hid (HFO_.out.at_ HBR.out (fun h => by omega))
    obtain ⟨c0, c1, c2, c3⟩ := cells4 HBw.out
    by_cases hlt : k < m
    · have hlt' : (k : Int) < (m : Int) := by omega
      have hfz := HF.out.size
      have rz := HR.out.fr HFO_.out (fun ad h e => by have := HZ.out ad h (by omega); omega)
      obtain ⟨zb, zo, rfl, hzb⟩ := rz.plain (by omega)
      obtain ⟨y, hy⟩ : ∃ y, ms.getD k EIt.z = y := ⟨_, rfl⟩
      have htk := take_one (l := ms) (k := k) (by omega) EIt.z
      rw [hy] at htk
      obtain ⟨y0, y1, y2, y3⟩ := y
      obtain ⟨l0, l1, l2, l3⟩ := rz.it hlt hy
      have hxb : wo5.heap.size ≤ wr.heap.size := HFO_.out.size
      have Bz6 : (wr.alloc (.cells #[.int .u8 0, .int .i64 0, .bool false, .int .i64 0] 105)).heap[wr.heap.size]? = some (.cells #[.int .u8 0, .int .i64 0, .bool false, .int .i64 0] 105 (0, 0)) := alloc_is _ rfl
      have Fz6 := (Fr.refl (fun _ => False) wr).alloc (.cells #[.int .u8 0, .int .i64 0, .bool false, .int .i64 0] 105)
      generalize hwm6 : wr.alloc (.cells #[.int .u8 0, .int .i64 0, .bool false, .int .i64 0] 105) = wm6 at Bz6 Fz6
      obtain ⟨c6_0, c6_1, c6_2, c6_3⟩ := cells4 Bz6
      have z6_0 := frozen_of Bz6 0
      have z6_1 := frozen_of Bz6 1
      have z6_2 := frozen_of Bz6 2
      have z6_3 := frozen_of Bz6 3
      have B6 := put4y (y0 := .int .u8 y0) (y1 := .int .i64 y1) (y2 := .bool y2) (y3 := .int .i64 y3) Bz6
      have Fo6 := (Fr.refl (fun i => i = wr.heap.size) wm6).put4 (b := wr.heap.size) (fun _ => rfl) (.int .u8 y0) (.int .i64 y1) (.bool y2) (.int .i64 y3)
      generalize hwo6 : ((((wm6.setCell ⟨wr.heap.size, 0, none⟩ (.int .u8 y0)).setCell ⟨wr.heap.size, 1, none⟩ (.int .i64 y1)).setCell ⟨wr.heap.size, 2, none⟩ (.bool y2)).setCell ⟨wr.heap.size, 3, none⟩ (.int .i64 y3)) = wo6 at B6 Fo6
      have FF6 := Fz6.trans Fo6 (fun i hi (h : i = wr.heap.size) => by omega)
      obtain ⟨d6_0, d6_1, d6_2, d6_3⟩ := cells4 B6
      have HFo6 := Lib.hid (HFO_.out.trans FF6 (fun _ _ x => x.elim))
      have HG6 := Lib.hid (FF6.at_ HG.out (fun x => x))
      have HO6 := Lib.hid (HO.out.fr FF6 (fun _ _ x => x))
      obtain ⟨e0, e1, e2⟩ := cells3 (FF6.at_ HBEw.out (fun x => x))
      have HB6 := Lib.hid B6
      have HTK := Lib.hid htk
      have hxs : wr.heap.size < wo6.heap.size := lt_of B6
      clear FF6 B6 hy htk rz hmlen
      by_cases hp0 : y0 = p
      · by_cases hq0 : y1 = x0
        · subst hp0
          subst hq0
          have f1 := frozen_of HB6.out 1
          have f2 := frozen_of HB6.out 2
          have f3 := frozen_of HB6.out 3
          have BX := set_at (set_at (set_at HB6.out 1 (.int .i64 y1)) 2 (.bool x1)) 3 (.int .i64 x2)
          simp only [List.setIfInBounds_toArray, List.set_cons_succ, List.set_cons_zero] at BX
          have FX := (((Fr.refl (fun i => i = wr.heap.size) wo6).setCell (p := ⟨wr.heap.size, 1, none⟩) (fun _ => rfl) (.int .i64 y1)).setCell (p := ⟨wr.heap.size, 2, none⟩) (fun _ => rfl) (.bool x1)).setCell (p := ⟨wr.heap.size, 3, none⟩) (fun _ => rfl) (.int .i64 x2)
          generalize hwx : ((wo6.setCell ⟨wr.heap.size, 1, none⟩ (.int .i64 y1)).setCell ⟨wr.heap.size, 2, none⟩ (.bool x1)).setCell ⟨wr.heap.size, 3, none⟩ (.int .i64 x2) = wx at BX FX
          obtain ⟨t0, t1, t2, t3⟩ := cells4 BX
          have HFO := Lib.hid (HFo6.out.trans FX (fun i hi (h : i = wr.heap.size) => by omega))
          have HOW := Lib.hid (FX.at_ HG6.out (fun h => by omega))
          have HOWN := Lib.hid (HO6.out.fr FX (fun k hk e => by have := (HO.out.blk k hk).2; omega))
          have hnew : (ms.take (k + 1)).map (rep y0 (y1, x1, x2)) = (ms.take k).map (rep y0 (y1, x1, x2)) ++ [(y0, y1, x1, x2)] := by rw [HTK.out, List.map_append]; simp [rep]
          have hhas : hasR y0 y1 (ms.take (k + 1)) = true := by rw [HTK.out, hasR_app]; simp [hasR]
          have HNEW := Lib.hid hnew
          have HHAS := Lib.hid hhas
          clear hnew hhas BX FX HTK
          obtain ⟨i0, hii, hz0, hz1, hz2⟩ := info_parts infoIt
          obtain ⟨o0, o1, o2, o3⟩ := cells4 HOW.out
          obtain ⟨u, hu⟩ : ∃ u, (ms.take k).map (rep y0 (y1, x1, x2)) = u := ⟨_, rfl⟩
          have hul : u.length ≤ 1000 := by rw [← hu]; first | (rw [List.length_map, List.length_take]; omega) | (have := HML.out; omega)
          rw [hu] at HOWN
          have HU := Lib.hid hu
          have hws : wo5.heap.size ≤ wx.heap.size := HFO.out.size
          clear hu
          go_wp2_with (at_builtin; refine append_one EIt 105 rfl _ _ 65 rfl i0 _ 32 Try.underlying65 hii hz0 hz1 hz2 rfl wo5.heap.size _ _ rfl (HOWN.out.alloc _) ⟨wx.heap.size, 0, none⟩ 1 (y0, y1, x1, x2) rfl ?c1 ?c2 ?c3 ?c4 ?c5 ?_)
          case c1 => first | exact lit_cells (W := wx) (cs := [.int .u8 y0, .int .i64 y1, .bool x1, .int .i64 x2]) rfl | exact fun j u hu => hu
          case c2 => intro u hu; simp [EIt] at hu; rcases hu with rfl | rfl | rfl | rfl <;> rfl
          case c3 => unfold maxLen; omega
          case c4 => omega
          case c5 => first | omega | (simp; omega)
          intro v' w8 hown hgrow
          obtain ⟨A9, k9, hv9, -, -⟩ := hown.reads
          rw [List.length_append, List.length_singleton] at hv9
          subst hv9
          have F8 := ((Fr.refl (fun b => wo5.heap.size ≤ b) wx).alloc (.cells #[.int .u8 y0, .int .i64 y1, .bool x1, .int .i64 x2] 105)).grownS hgrow (fun k hk => (HOWN.out.blk k hk).1)
          have G8 := F8.at_ HOW.out (fun h => by omega)
          obtain ⟨g0, g1, g2, g3⟩ := cells4 G8
          have gz := frozen_of G8 3
          have G9 := set_at G8 3 (.slice A9 (u.length + 1) k9)
          simp only [List.setIfInBounds_toArray, List.set_cons_succ, List.set_cons_zero] at G9
          have F9 := (HFO.out.trans F8 (fun i hi (h : wo5.heap.size ≤ i) => absurd h (by omega))).setCell (p := ⟨w1.heap.size, 3, none⟩) (fun _ => rfl) (.slice A9 (u.length + 1) k9)
          have O9 := hown.fr ((Fr.refl (fun i => i = w1.heap.size) w8).setCell (p := ⟨w1.heap.size, 3, none⟩) (fun _ => rfl) (.slice A9 (u.length + 1) k9)) (fun k hk e => by have := (hown.blk k hk).1; omega)
          generalize hw9 : w8.setCell ⟨w1.heap.size, 3, none⟩ (.slice A9 (u.length + 1) k9) = w9 at G9 F9 O9
          have HG9 := Lib.hid G9
          have HF9 := Lib.hid F9
          have HO9 := Lib.hid O9
          clear hgrow hown F8 G8 G9 F9 O9 hii hz0 hz1 hz2
          go_wp2
          go_roundw
          case rel => exact ⟨k + 1, _, by go_num, by have := HML.out; omega, by rw [show hasR y0 (((y1, x1, x2) : Ev)).1 (ms.take (k + 1)) = true from HHAS.out], HG9.out, by rw [HNEW.out, HU.out]; exact HO9.out, HF9.out⟩
          case measure => simp [intOf] <;> omega
        · subst hp0
          have hq0' : (y1 == x0) = false := by simp [hq0]
          have hnew : (ms.take (k + 1)).map (rep y0 (x0, x1, x2)) = (ms.take k).map (rep y0 (x0, x1, x2)) ++ [(y0, y1, y2, y3)] := by rw [HTK.out, List.map_append]; simp [rep, hq0]
          have hhas : hasR y0 x0 (ms.take (k + 1)) = fb := by rw [HTK.out, hasR_app, HFB.out]; simp [hasR, hq0]
          have HNEW := Lib.hid hnew
          have HHAS := Lib.hid hhas
          have HFO := HFo6
          have HOW := HG6
          have HOWN := HO6
          clear hnew hhas HTK hq0
          obtain ⟨i0, hii, hz0, hz1, hz2⟩ := info_parts infoIt
          obtain ⟨o0, o1, o2, o3⟩ := cells4 HOW.out
          obtain ⟨u, hu⟩ : ∃ u, (ms.take k).map (rep y0 (x0, x1, x2)) = u := ⟨_, rfl⟩
          have hul : u.length ≤ 1000 := by rw [← hu]; first | (rw [List.length_map, List.length_take]; omega) | (have := HML.out; omega)
          rw [hu] at HOWN
          have HU := Lib.hid hu
          have hws : wo5.heap.size ≤ wo6.heap.size := HFO.out.size
          clear hu
          go_wp2_with (at_builtin; refine append_one EIt 105 rfl _ _ 65 rfl i0 _ 32 Try.underlying65 hii hz0 hz1 hz2 rfl wo5.heap.size _ _ rfl (HOWN.out.alloc _) ⟨wo6.heap.size, 0, none⟩ 1 (y0, y1, y2, y3) rfl ?c1 ?c2 ?c3 ?c4 ?c5 ?_)
          case c1 => first | exact lit_cells (W := wo6) (cs := [.int .u8 y0, .int .i64 y1, .bool y2, .int .i64 y3]) rfl | exact fun j u hu => hu
          case c2 => intro u hu; simp [EIt] at hu; rcases hu with rfl | rfl | rfl | rfl <;> rfl
          case c3 => unfold maxLen; omega
          case c4 => omega
          case c5 => first | omega | (simp; omega)
          intro v' w8 hown hgrow
          obtain ⟨A9, k9, hv9, -, -⟩ := hown.reads
          rw [List.length_append, List.length_singleton] at hv9
          subst hv9
          have F8 := ((Fr.refl (fun b => wo5.heap.size ≤ b) wo6).alloc (.cells #[.int .u8 y0, .int .i64 y1, .bool y2, .int .i64 y3] 105)).grownS hgrow (fun k hk => (HOWN.out.blk k hk).1)
          have G8 := F8.at_ HOW.out (fun h => by omega)
          obtain ⟨g0, g1, g2, g3⟩ := cells4 G8
          have gz := frozen_of G8 3
          have G9 := set_at G8 3 (.slice A9 (u.length + 1) k9)
          simp only [List.setIfInBounds_toArray, List.set_cons_succ, List.set_cons_zero] at G9
          have F9 := (HFO.out.trans F8 (fun i hi (h : wo5.heap.size ≤ i) => absurd h (by omega))).setCell (p := ⟨w1.heap.size, 3, none⟩) (fun _ => rfl) (.slice A9 (u.length + 1) k9)
          have O9 := hown.fr ((Fr.refl (fun i => i = w1.heap.size) w8).setCell (p := ⟨w1.heap.size, 3, none⟩) (fun _ => rfl) (.slice A9 (u.length + 1) k9)) (fun k hk e => by have := (hown.blk k hk).1; omega)
          generalize hw9 : w8.setCell ⟨w1.heap.size, 3, none⟩ (.slice A9 (u.length + 1) k9) = w9 at G9 F9 O9
          have HG9 := Lib.hid G9
          have HF9 := Lib.hid F9
          have HO9 := Lib.hid O9
          clear hgrow hown F8 G8 G9 F9 O9 hii hz0 hz1 hz2
          go_wp2
          go_roundw
          case rel => exact ⟨k + 1, _, by go_num, by have := HML.out; omega, by rw [show hasR y0 (((x0, x1, x2) : Ev)).1 (ms.take (k + 1)) = fb from HHAS.out], HG9.out, by rw [HNEW.out, HU.out]; exact HO9.out, HF9.out⟩
          case measure => simp [intOf] <;> omega
      · have hp0' : (y0 == p) = false := by simp [hp0]
        have hq0 : True := trivial
        have hnew : (ms.take (k + 1)).map (rep p (x0, x1, x2)) = (ms.take k).map (rep p (x0, x1, x2)) ++ [(y0, y1, y2, y3)] := by rw [HTK.out, List.map_append]; simp [rep, hp0]
        have hhas : hasR p x0 (ms.take (k + 1)) = fb := by rw [HTK.out, hasR_app, HFB.out]; simp [hasR, hp0]
        clear hp0
        have HNEW := Lib.hid hnew
        have HHAS := Lib.hid hhas
        have HFO := HFo6
        have HOW := HG6
        have HOWN := HO6
        clear hnew hhas HTK hq0
        obtain ⟨i0, hii, hz0, hz1, hz2⟩ := info_parts infoIt
        obtain ⟨o0, o1, o2, o3⟩ := cells4 HOW.out
        obtain ⟨u, hu⟩ : ∃ u, (ms.take k).map (rep p (x0, x1, x2)) = u := ⟨_, rfl⟩
        have hul : u.length ≤ 1000 := by rw [← hu]; first | (rw [List.length_map, List.length_take]; omega) | (have := HML.out; omega)
        rw [hu] at HOWN
        have HU := Lib.hid hu
        have hws : wo5.heap.size ≤ wo6.heap.size := HFO.out.size
        clear hu
        go_wp2_with (at_builtin; refine append_one EIt 105 rfl _ _ 65 rfl i0 _ 32 Try.underlying65 hii hz0 hz1 hz2 rfl wo5.heap.size _ _ rfl (HOWN.out.alloc _) ⟨wo6.heap.size, 0, none⟩ 1 (y0, y1, y2, y3) rfl ?c1 ?c2 ?c3 ?c4 ?c5 ?_)
        case c1 => first | exact lit_cells (W := wo6) (cs := [.int .u8 y0, .int .i64 y1, .bool y2, .int .i64 y3]) rfl | exact fun j u hu => hu
        case c2 => intro u hu; simp [EIt] at hu; rcases hu with rfl | rfl | rfl | rfl <;> rfl
        case c3 => unfold maxLen; omega
        case c4 => omega
        case c5 => first | omega | (simp; omega)
        intro v' w8 hown hgrow
        obtain ⟨A9, k9, hv9, -, -⟩ := hown.reads
        rw [List.length_append, List.length_singleton] at hv9
        subst hv9
        have F8 := ((Fr.refl (fun b => wo5.heap.size ≤ b) wo6).alloc (.cells #[.int .u8 y0, .int .i64 y1, .bool y2, .int .i64 y3] 105)).grownS hgrow (fun k hk => (HOWN.out.blk k hk).1)
        have G8 := F8.at_ HOW.out (fun h => by omega)
        obtain ⟨g0, g1, g2, g3⟩ := cells4 G8
        have gz := frozen_of G8 3
        have G9 := set_at G8 3 (.slice A9 (u.length + 1) k9)
        simp only [List.setIfInBounds_toArray, List.set_cons_succ, List.set_cons_zero] at G9
        have F9 := (HFO.out.trans F8 (fun i hi (h : wo5.heap.size ≤ i) => absurd h (by omega))).setCell (p := ⟨w1.heap.size, 3, none⟩) (fun _ => rfl) (.slice A9 (u.length + 1) k9)
        have O9 := hown.fr ((Fr.refl (fun i => i = w1.heap.size) w8).setCell (p := ⟨w1.heap.size, 3, none⟩) (fun _ => rfl) (.slice A9 (u.length + 1) k9)) (fun k hk e => by have := (hown.blk k hk).1; omega)
        generalize hw9 : w8.setCell ⟨w1.heap.size, 3, none⟩ (.slice A9 (u.length + 1) k9) = w9 at G9 F9 O9
        have HG9 := Lib.hid G9
        have HF9 := Lib.hid F9
        have HO9 := Lib.hid O9
        clear hgrow hown F8 G8 G9 F9 O9 hii hz0 hz1 hz2
        go_wp2
        go_roundw
        case rel => exact ⟨k + 1, _, by go_num, by have := HML.out; omega, by rw [show hasR p (((x0, x1, x2) : Ev)).1 (ms.take (k + 1)) = fb from HHAS.out], HG9.out, by rw [HNEW.out, HU.out]; exact HO9.out, HF9.out⟩
        case measure => simp [intOf] <;> omega
    · have h3 : ¬ (k : Int) < (m : Int) := by omega
      have hall : ms.take k = ms := List.take_of_length_le (by omega)
      clear hmlen
      rw [hall] at HO HFB
      have hres := HRES.out
      unfold putR at hres
      rw [show hasR p (((x0, x1, x2) : Ev)).1 ms = fb from HFB.out] at hres
      clear hall
      obtain ⟨k0, k1, k2, k3⟩ := cells4 HBRw.out
      have z0 := frozen_of HBRw.out 0
      have z1 := frozen_of HBRw.out 1
      have z2 := frozen_of HBRw.out 2
      have z3 := frozen_of HBRw.out 3
      cases fb with
      | true =>
        simp only [if_true] at hres
        obtain ⟨rfl, rfl⟩ := Prod.mk.inj hres
        obtain ⟨A', k', hv, rd, hA'⟩ := HO.out.reads
        rw [List.length_map, HML.out] at hv rd
        subst hv
        obtain ⟨o0, o1, o2, o3⟩ := cells4 HG.out
        have B2 := put4y (y0 := .int .i64 r0) (y1 := .int .i64 r1) (y2 := .int .i64 r2) (y3 := .slice A' m k') HBRw.out
        have G2 := (Fr.refl (fun i => i = w.heap.size + 2) wr).put4 (b := w.heap.size + 2) (fun _ => rfl) (.int .i64 r0) (.int .i64 r1) (.int .i64 r2) (.slice A' m k')
        have F2 := (HF.out.trans HFO_.out (fun i hi (h : i = w1.heap.size) => by have := HF.out.size; omega)).put4 (b := w.heap.size + 2) (fun h => absurd h (by omega)) (.int .i64 r0) (.int .i64 r1) (.int .i64 r2) (.slice A' m k')
        have HB2 := Lib.hid B2
        have HF2 := Lib.hid F2
        have HR2 := Lib.hid (rd.fr G2 (fun ad h e => by have := hA' ad h; have := HF.out.size; omega))
        have HA2 : Hid (∀ ad, A' = some ad → w.heap.size ≤ ad.block) := Lib.hid (fun ad h => by have := hA' ad h; have := HF.out.size; omega)
        clear B2 G2 F2 rd hA'
        go_wp2
        exact ret_ct rfl rfl rfl HB2.out Try.underlying67 rfl (by kernel_rfl) ⟨A', k', by rw [List.length_map, HML.out]; rfl, by rw [List.length_map, HML.out]; exact HR2.out, fun ad h => .inl (HA2.out ad h), by rw [List.length_map, HML.out]; exact own_cap HO.out, HF2.out⟩
      | false =>
        simp only [Bool.false_eq_true, if_false] at hres
        have hrn : ms.map (rep p (x0, x1, x2)) = ms := rep_none HFB.out
        rw [hrn] at HO
        clear hrn
        have HFW : Hid (Fr (fun _ => False) w wr) := Lib.hid (HF.out.trans HFO_.out (fun i hi (h : i = w1.heap.size) => by omega))
        rcases (by omega : i = 0 ∨ i = 1 ∨ i = 2) with rfl | rfl | rfl
        · have hpe : p = 1 := by have := HP.out; omega
          subst hpe
          clear HP
          by_cases hbig : 1024 < r0
          · go_wp2_with fail
            refine (rbnd wr r0 r1 r2 A m cap ms 1 (HRI.out _ HFW.out) (by omega)).mono ?_
            rintro e w7 ⟨A7, c7, rfl, -, F7⟩
            clear c0 c1 c2 c3 k0 k1 k2 k3 z0 z1 z2 z3
            have HBR7 := Lib.hid (F7.at_ HBRw.out (fun x => x))
            have HF7 := Lib.hid (HFW.out.step F7 nop)
            obtain ⟨c0, c1, c2, c3⟩ := cells4 (F7.at_ HBw.out (fun x => x))
            obtain ⟨e0, e1, e2⟩ := cells3 (F7.at_ HBEw.out (fun x => x))
            obtain ⟨k0, k1, k2, k3⟩ := cells4 HBR7.out
            have z0 := frozen_of HBR7.out 0
            have z1 := frozen_of HBR7.out 1
            have z2 := frozen_of HBR7.out 2
            have z3 := frozen_of HBR7.out 3
            have HFO := Lib.hid (HFO_.out.trans F7 (fun _ _ x => x.elim))
            have HOW := Lib.hid (F7.at_ HG.out (fun h => h))
            have HOWN := Lib.hid (HO.out.fr F7 (fun _ _ x => x))
            clear F7
            obtain ⟨bl, hbl⟩ : ∃ n, (bnd 1 ms).length = n := ⟨_, rfl⟩
            rw [hbl] at hres
            rw [hbl]
            clear hbl
            by_cases hfull : (1024 : Int) ≤ (bl : Int)
            · rw [if_pos (show RE.room (tri r0 r1 r2 0) ≤ bl from by show RE.room r0 ≤ bl; unfold RE.room; omega)] at hres
              obtain ⟨rfl, rfl⟩ := Prod.mk.inj hres
              have B2 := put4y (y0 := .int .i64 r0) (y1 := .int .i64 r1) (y2 := .int .i64 r2) (y3 := .slice A m cap) HBR7.out
              have F2 := HF7.out.put4 (b := w.heap.size + 2) (fun h => absurd h (by omega)) (.int .i64 r0) (.int .i64 r1) (.int .i64 r2) (.slice A m cap)
              have HB2 := Lib.hid B2
              have HF2 := Lib.hid F2
              clear B2 F2
              go_wp2
              exact ret_ct rfl rfl rfl HB2.out Try.underlying67 rfl (by kernel_rfl) ⟨A, cap, by rw [HML.out]; rfl, by rw [HML.out]; exact HRI.out _ HF2.out, fun ad h => .inr ⟨rfl, HML.out⟩, by rw [HML.out]; exact HCAP.out, HF2.out⟩
            · rw [if_neg (show ¬ RE.room (tri r0 r1 r2 0) ≤ bl from by show ¬ RE.room r0 ≤ bl; unfold RE.room; omega)] at hres
              obtain ⟨rfl, rfl⟩ := Prod.mk.inj hres
              clear k0 k1 k2 k3 z0 z1 z2 z3
              obtain ⟨i0, hii, hz0, hz1, hz2⟩ := info_parts infoIt
              obtain ⟨o0, o1, o2, o3⟩ := cells4 HOW.out
              obtain ⟨u, hu⟩ : ∃ u, ms = u := ⟨_, rfl⟩
              have hul : u.length ≤ 1000 := by rw [← hu]; first | (rw [List.length_map, List.length_take]; omega) | (have := HML.out; omega)
              rw [hu] at HOWN
              have HU := Lib.hid hu
              have hws : wo5.heap.size ≤ w7.heap.size := HFO.out.size
              clear hu
              go_wp2_with (at_builtin; refine append_one EIt 105 rfl _ _ 65 rfl i0 _ 32 Try.underlying65 hii hz0 hz1 hz2 rfl wo5.heap.size _ _ rfl (HOWN.out.alloc _) ⟨w7.heap.size, 0, none⟩ 1 (1, x0, x1, x2) rfl ?c1 ?c2 ?c3 ?c4 ?c5 ?_)
              case c1 => first | exact lit_cells (W := w7) (cs := [.int .u8 1, .int .i64 x0, .bool x1, .int .i64 x2]) rfl | exact fun j u hu => hu
              case c2 => intro u hu; simp [EIt] at hu; rcases hu with rfl | rfl | rfl | rfl <;> rfl
              case c3 => unfold maxLen; omega
              case c4 => omega
              case c5 => first | omega | (simp; omega)
              intro v' w8 hown hgrow
              obtain ⟨A9, k9, hv9, -, -⟩ := hown.reads
              rw [List.length_append, List.length_singleton] at hv9
              subst hv9
              have F8 := ((Fr.refl (fun b => wo5.heap.size ≤ b) w7).alloc (.cells #[.int .u8 1, .int .i64 x0, .bool x1, .int .i64 x2] 105)).grownS hgrow (fun k hk => (HOWN.out.blk k hk).1)
              have G8 := F8.at_ HOW.out (fun h => by omega)
              obtain ⟨g0, g1, g2, g3⟩ := cells4 G8
              have gz := frozen_of G8 3
              have G9 := set_at G8 3 (.slice A9 (u.length + 1) k9)
              simp only [List.setIfInBounds_toArray, List.set_cons_succ, List.set_cons_zero] at G9
              have F9 := (HFO.out.trans F8 (fun i hi (h : wo5.heap.size ≤ i) => absurd h (by omega))).setCell (p := ⟨w1.heap.size, 3, none⟩) (fun _ => rfl) (.slice A9 (u.length + 1) k9)
              have O9 := hown.fr ((Fr.refl (fun i => i = w1.heap.size) w8).setCell (p := ⟨w1.heap.size, 3, none⟩) (fun _ => rfl) (.slice A9 (u.length + 1) k9)) (fun k hk e => by have := (hown.blk k hk).1; omega)
              generalize hw9 : w8.setCell ⟨w1.heap.size, 3, none⟩ (.slice A9 (u.length + 1) k9) = w9 at G9 F9 O9
              have HG9 := Lib.hid G9
              have HF9 := Lib.hid F9
              have HO9 := Lib.hid O9
              clear hgrow hown F8 G8 G9 F9 O9 hii hz0 hz1 hz2
              obtain rfl := HU.out
              obtain ⟨A', k', hv, rd, hA'⟩ := HO9.out.reads
              rw [List.length_append, List.length_singleton, HML.out] at hv rd
              obtain ⟨q1_, q2_, q3_⟩ := Value.slice.inj hv
              subst q1_
              subst q3_
              clear q2_ hv
              rw [HML.out] at HG9 hw9
              have BR9 := HF9.out.at_ HBR.out (fun h => by omega)
              obtain ⟨q0, q1, q2, q3⟩ := cells4 BR9
              obtain ⟨s0, s1, s2, s3⟩ := cells4 HG9.out
              have z0 := frozen_of BR9 0
              have z1 := frozen_of BR9 1
              have z2 := frozen_of BR9 2
              have z3 := frozen_of BR9 3
              have B2 := put4y (y0 := .int .i64 r0) (y1 := .int .i64 r1) (y2 := .int .i64 r2) (y3 := .slice A9 (m + 1) k9) BR9
              have G2 := (Fr.refl (fun i => i = w.heap.size + 2) w9).put4 (b := w.heap.size + 2) (fun _ => rfl) (.int .i64 r0) (.int .i64 r1) (.int .i64 r2) (.slice A9 (m + 1) k9)
              have F2 := (HF.out.trans HF9.out (fun i hi (h : i = w1.heap.size) => by omega)).put4 (b := w.heap.size + 2) (fun h => absurd h (by omega)) (.int .i64 r0) (.int .i64 r1) (.int .i64 r2) (.slice A9 (m + 1) k9)
              have HB2 := Lib.hid B2
              have HF2 := Lib.hid F2
              have HR2 := Lib.hid (rd.fr G2 (fun ad h e => by have := hA' ad h; have := HF.out.size; omega))
              have HA2 : Hid (∀ ad, A9 = some ad → w.heap.size ≤ ad.block) := Lib.hid (fun ad h => by have := hA' ad h; have := HF.out.size; omega)
              clear B2 G2 F2 rd hA' BR9
              go_wp2
              exact ret_ct rfl rfl rfl HB2.out Try.underlying67 rfl (by kernel_rfl) ⟨A9, k9, by rw [List.length_append, HML.out]; rfl, by rw [List.length_append, HML.out]; exact HR2.out, fun ad h => .inl (HA2.out ad h), by rw [List.length_append]; exact own_cap HO9.out, HF2.out⟩
          · have hbig2 : ¬ 1024 < r0 := hbig
            go_wp2_with fail
            refine (rbnd wr r0 r1 r2 A m cap ms 1 (HRI.out _ HFW.out) (by omega)).mono ?_
            rintro e w7 ⟨A7, c7, rfl, -, F7⟩
            clear c0 c1 c2 c3 k0 k1 k2 k3 z0 z1 z2 z3
            have HBR7 := Lib.hid (F7.at_ HBRw.out (fun x => x))
            have HF7 := Lib.hid (HFW.out.step F7 nop)
            obtain ⟨c0, c1, c2, c3⟩ := cells4 (F7.at_ HBw.out (fun x => x))
            obtain ⟨e0, e1, e2⟩ := cells3 (F7.at_ HBEw.out (fun x => x))
            obtain ⟨k0, k1, k2, k3⟩ := cells4 HBR7.out
            have z0 := frozen_of HBR7.out 0
            have z1 := frozen_of HBR7.out 1
            have z2 := frozen_of HBR7.out 2
            have z3 := frozen_of HBR7.out 3
            have HFO := Lib.hid (HFO_.out.trans F7 (fun _ _ x => x.elim))
            have HOW := Lib.hid (F7.at_ HG.out (fun h => h))
            have HOWN := Lib.hid (HO.out.fr F7 (fun _ _ x => x))
            clear F7
            obtain ⟨bl, hbl⟩ : ∃ n, (bnd 1 ms).length = n := ⟨_, rfl⟩
            rw [hbl] at hres
            rw [hbl]
            clear hbl
            by_cases hfull : r0 ≤ (bl : Int)
            · rw [if_pos (show RE.room (tri r0 r1 r2 0) ≤ bl from by show RE.room r0 ≤ bl; unfold RE.room; omega)] at hres
              obtain ⟨rfl, rfl⟩ := Prod.mk.inj hres
              have B2 := put4y (y0 := .int .i64 r0) (y1 := .int .i64 r1) (y2 := .int .i64 r2) (y3 := .slice A m cap) HBR7.out
              have F2 := HF7.out.put4 (b := w.heap.size + 2) (fun h => absurd h (by omega)) (.int .i64 r0) (.int .i64 r1) (.int .i64 r2) (.slice A m cap)
              have HB2 := Lib.hid B2
              have HF2 := Lib.hid F2
              clear B2 F2
              go_wp2
              exact ret_ct rfl rfl rfl HB2.out Try.underlying67 rfl (by kernel_rfl) ⟨A, cap, by rw [HML.out]; rfl, by rw [HML.out]; exact HRI.out _ HF2.out, fun ad h => .inr ⟨rfl, HML.out⟩, by rw [HML.out]; exact HCAP.out, HF2.out⟩
            · rw [if_neg (show ¬ RE.room (tri r0 r1 r2 0) ≤ bl from by show ¬ RE.room r0 ≤ bl; unfold RE.room; omega)] at hres
              obtain ⟨rfl, rfl⟩ := Prod.mk.inj hres
              clear k0 k1 k2 k3 z0 z1 z2 z3
              obtain ⟨i0, hii, hz0, hz1, hz2⟩ := info_parts infoIt
              obtain ⟨o0, o1, o2, o3⟩ := cells4 HOW.out
              obtain ⟨u, hu⟩ : ∃ u, ms = u := ⟨_, rfl⟩
              have hul : u.length ≤ 1000 := by rw [← hu]; first | (rw [List.length_map, List.length_take]; omega) | (have := HML.out; omega)
              rw [hu] at HOWN
              have HU := Lib.hid hu
              have hws : wo5.heap.size ≤ w7.heap.size := HFO.out.size
              clear hu
              go_wp2_with (at_builtin; refine append_one EIt 105 rfl _ _ 65 rfl i0 _ 32 Try.underlying65 hii hz0 hz1 hz2 rfl wo5.heap.size _ _ rfl (HOWN.out.alloc _) ⟨w7.heap.size, 0, none⟩ 1 (1, x0, x1, x2) rfl ?c1 ?c2 ?c3 ?c4 ?c5 ?_)
              case c1 => first | exact lit_cells (W := w7) (cs := [.int .u8 1, .int .i64 x0, .bool x1, .int .i64 x2]) rfl | exact fun j u hu => hu
              case c2 => intro u hu; simp [EIt] at hu; rcases hu with rfl | rfl | rfl | rfl <;> rfl
              case c3 => unfold maxLen; omega
              case c4 => omega
              case c5 => first | omega | (simp; omega)
              intro v' w8 hown hgrow
              obtain ⟨A9, k9, hv9, -, -⟩ := hown.reads
              rw [List.length_append, List.length_singleton] at hv9
              subst hv9
              have F8 := ((Fr.refl (fun b => wo5.heap.size ≤ b) w7).alloc (.cells #[.int .u8 1, .int .i64 x0, .bool x1, .int .i64 x2] 105)).grownS hgrow (fun k hk => (HOWN.out.blk k hk).1)
              have G8 := F8.at_ HOW.out (fun h => by omega)
              obtain ⟨g0, g1, g2, g3⟩ := cells4 G8
              have gz := frozen_of G8 3
              have G9 := set_at G8 3 (.slice A9 (u.length + 1) k9)
              simp only [List.setIfInBounds_toArray, List.set_cons_succ, List.set_cons_zero] at G9
              have F9 := (HFO.out.trans F8 (fun i hi (h : wo5.heap.size ≤ i) => absurd h (by omega))).setCell (p := ⟨w1.heap.size, 3, none⟩) (fun _ => rfl) (.slice A9 (u.length + 1) k9)
              have O9 := hown.fr ((Fr.refl (fun i => i = w1.heap.size) w8).setCell (p := ⟨w1.heap.size, 3, none⟩) (fun _ => rfl) (.slice A9 (u.length + 1) k9)) (fun k hk e => by have := (hown.blk k hk).1; omega)
              generalize hw9 : w8.setCell ⟨w1.heap.size, 3, none⟩ (.slice A9 (u.length + 1) k9) = w9 at G9 F9 O9
              have HG9 := Lib.hid G9
              have HF9 := Lib.hid F9
              have HO9 := Lib.hid O9
              clear hgrow hown F8 G8 G9 F9 O9 hii hz0 hz1 hz2
              obtain rfl := HU.out
              obtain ⟨A', k', hv, rd, hA'⟩ := HO9.out.reads
              rw [List.length_append, List.length_singleton, HML.out] at hv rd
              obtain ⟨q1_, q2_, q3_⟩ := Value.slice.inj hv
              subst q1_
              subst q3_
              clear q2_ hv
              rw [HML.out] at HG9 hw9
              have BR9 := HF9.out.at_ HBR.out (fun h => by omega)
              obtain ⟨q0, q1, q2, q3⟩ := cells4 BR9
              obtain ⟨s0, s1, s2, s3⟩ := cells4 HG9.out
              have z0 := frozen_of BR9 0
              have z1 := frozen_of BR9 1
              have z2 := frozen_of BR9 2
              have z3 := frozen_of BR9 3
              have B2 := put4y (y0 := .int .i64 r0) (y1 := .int .i64 r1) (y2 := .int .i64 r2) (y3 := .slice A9 (m + 1) k9) BR9
              have G2 := (Fr.refl (fun i => i = w.heap.size + 2) w9).put4 (b := w.heap.size + 2) (fun _ => rfl) (.int .i64 r0) (.int .i64 r1) (.int .i64 r2) (.slice A9 (m + 1) k9)
              have F2 := (HF.out.trans HF9.out (fun i hi (h : i = w1.heap.size) => by omega)).put4 (b := w.heap.size + 2) (fun h => absurd h (by omega)) (.int .i64 r0) (.int .i64 r1) (.int .i64 r2) (.slice A9 (m + 1) k9)
              have HB2 := Lib.hid B2
              have HF2 := Lib.hid F2
              have HR2 := Lib.hid (rd.fr G2 (fun ad h e => by have := hA' ad h; have := HF.out.size; omega))
              have HA2 : Hid (∀ ad, A9 = some ad → w.heap.size ≤ ad.block) := Lib.hid (fun ad h => by have := hA' ad h; have := HF.out.size; omega)
              clear B2 G2 F2 rd hA' BR9
              go_wp2
              exact ret_ct rfl rfl rfl HB2.out Try.underlying67 rfl (by kernel_rfl) ⟨A9, k9, by rw [List.length_append, HML.out]; rfl, by rw [List.length_append, HML.out]; exact HR2.out, fun ad h => .inl (HA2.out ad h), by rw [List.length_append]; exact own_cap HO9.out, HF2.out⟩
        · have hpe : p = 2 := by have := HP.out; omega
          subst hpe
          clear HP
          by_cases hbig : 1024 < r1
          · go_wp2_with fail
            refine (rbnd wr r0 r1 r2 A m cap ms 2 (HRI.out _ HFW.out) (by omega)).mono ?_
            rintro e w7 ⟨A7, c7, rfl, -, F7⟩
            clear c0 c1 c2 c3 k0 k1 k2 k3 z0 z1 z2 z3
            have HBR7 := Lib.hid (F7.at_ HBRw.out (fun x => x))
            have HF7 := Lib.hid (HFW.out.step F7 nop)
            obtain ⟨c0, c1, c2, c3⟩ := cells4 (F7.at_ HBw.out (fun x => x))
            obtain ⟨e0, e1, e2⟩ := cells3 (F7.at_ HBEw.out (fun x => x))
            obtain ⟨k0, k1, k2, k3⟩ := cells4 HBR7.out
            have z0 := frozen_of HBR7.out 0
            have z1 := frozen_of HBR7.out 1
            have z2 := frozen_of HBR7.out 2
            have z3 := frozen_of HBR7.out 3
            have HFO := Lib.hid (HFO_.out.trans F7 (fun _ _ x => x.elim))
            have HOW := Lib.hid (F7.at_ HG.out (fun h => h))
            have HOWN := Lib.hid (HO.out.fr F7 (fun _ _ x => x))
            clear F7
            obtain ⟨bl, hbl⟩ : ∃ n, (bnd 2 ms).length = n := ⟨_, rfl⟩
            rw [hbl] at hres
            rw [hbl]
            clear hbl
            by_cases hfull : (1024 : Int) ≤ (bl : Int)
            · rw [if_pos (show RE.room (tri r0 r1 r2 1) ≤ bl from by show RE.room r1 ≤ bl; unfold RE.room; omega)] at hres
              obtain ⟨rfl, rfl⟩ := Prod.mk.inj hres
              have B2 := put4y (y0 := .int .i64 r0) (y1 := .int .i64 r1) (y2 := .int .i64 r2) (y3 := .slice A m cap) HBR7.out
              have F2 := HF7.out.put4 (b := w.heap.size + 2) (fun h => absurd h (by omega)) (.int .i64 r0) (.int .i64 r1) (.int .i64 r2) (.slice A m cap)
              have HB2 := Lib.hid B2
              have HF2 := Lib.hid F2
              clear B2 F2
              go_wp2
              exact ret_ct rfl rfl rfl HB2.out Try.underlying67 rfl (by kernel_rfl) ⟨A, cap, by rw [HML.out]; rfl, by rw [HML.out]; exact HRI.out _ HF2.out, fun ad h => .inr ⟨rfl, HML.out⟩, by rw [HML.out]; exact HCAP.out, HF2.out⟩
            · rw [if_neg (show ¬ RE.room (tri r0 r1 r2 1) ≤ bl from by show ¬ RE.room r1 ≤ bl; unfold RE.room; omega)] at hres
              obtain ⟨rfl, rfl⟩ := Prod.mk.inj hres
              clear k0 k1 k2 k3 z0 z1 z2 z3
              obtain ⟨i0, hii, hz0, hz1, hz2⟩ := info_parts infoIt
              obtain ⟨o0, o1, o2, o3⟩ := cells4 HOW.out
              obtain ⟨u, hu⟩ : ∃ u, ms = u := ⟨_, rfl⟩
              have hul : u.length ≤ 1000 := by rw [← hu]; first | (rw [List.length_map, List.length_take]; omega) | (have := HML.out; omega)
              rw [hu] at HOWN
              have HU := Lib.hid hu
              have hws : wo5.heap.size ≤ w7.heap.size := HFO.out.size
              clear hu
              go_wp2_with (at_builtin; refine append_one EIt 105 rfl _ _ 65 rfl i0 _ 32 Try.underlying65 hii hz0 hz1 hz2 rfl wo5.heap.size _ _ rfl (HOWN.out.alloc _) ⟨w7.heap.size, 0, none⟩ 1 (2, x0, x1, x2) rfl ?c1 ?c2 ?c3 ?c4 ?c5 ?_)
              case c1 => first | exact lit_cells (W := w7) (cs := [.int .u8 2, .int .i64 x0, .bool x1, .int .i64 x2]) rfl | exact fun j u hu => hu
              case c2 => intro u hu; simp [EIt] at hu; rcases hu with rfl | rfl | rfl | rfl <;> rfl
              case c3 => unfold maxLen; omega
              case c4 => omega
              case c5 => first | omega | (simp; omega)
              intro v' w8 hown hgrow
              obtain ⟨A9, k9, hv9, -, -⟩ := hown.reads
              rw [List.length_append, List.length_singleton] at hv9
              subst hv9
              have F8 := ((Fr.refl (fun b => wo5.heap.size ≤ b) w7).alloc (.cells #[.int .u8 2, .int .i64 x0, .bool x1, .int .i64 x2] 105)).grownS hgrow (fun k hk => (HOWN.out.blk k hk).1)
              have G8 := F8.at_ HOW.out (fun h => by omega)
              obtain ⟨g0, g1, g2, g3⟩ := cells4 G8
              have gz := frozen_of G8 3
              have G9 := set_at G8 3 (.slice A9 (u.length + 1) k9)
              simp only [List.setIfInBounds_toArray, List.set_cons_succ, List.set_cons_zero] at G9
              have F9 := (HFO.out.trans F8 (fun i hi (h : wo5.heap.size ≤ i) => absurd h (by omega))).setCell (p := ⟨w1.heap.size, 3, none⟩) (fun _ => rfl) (.slice A9 (u.length + 1) k9)
              have O9 := hown.fr ((Fr.refl (fun i => i = w1.heap.size) w8).setCell (p := ⟨w1.heap.size, 3, none⟩) (fun _ => rfl) (.slice A9 (u.length + 1) k9)) (fun k hk e => by have := (hown.blk k hk).1; omega)
              generalize hw9 : w8.setCell ⟨w1.heap.size, 3, none⟩ (.slice A9 (u.length + 1) k9) = w9 at G9 F9 O9
              have HG9 := Lib.hid G9
              have HF9 := Lib.hid F9
              have HO9 := Lib.hid O9
              clear hgrow hown F8 G8 G9 F9 O9 hii hz0 hz1 hz2
              obtain rfl := HU.out
              obtain ⟨A', k', hv, rd, hA'⟩ := HO9.out.reads
              rw [List.length_append, List.length_singleton, HML.out] at hv rd
              obtain ⟨q1_, q2_, q3_⟩ := Value.slice.inj hv
              subst q1_
              subst q3_
              clear q2_ hv
              rw [HML.out] at HG9 hw9
              have BR9 := HF9.out.at_ HBR.out (fun h => by omega)
              obtain ⟨q0, q1, q2, q3⟩ := cells4 BR9
              obtain ⟨s0, s1, s2, s3⟩ := cells4 HG9.out
              have z0 := frozen_of BR9 0
              have z1 := frozen_of BR9 1
              have z2 := frozen_of BR9 2
              have z3 := frozen_of BR9 3
              have B2 := put4y (y0 := .int .i64 r0) (y1 := .int .i64 r1) (y2 := .int .i64 r2) (y3 := .slice A9 (m + 1) k9) BR9
              have G2 := (Fr.refl (fun i => i = w.heap.size + 2) w9).put4 (b := w.heap.size + 2) (fun _ => rfl) (.int .i64 r0) (.int .i64 r1) (.int .i64 r2) (.slice A9 (m + 1) k9)
              have F2 := (HF.out.trans HF9.out (fun i hi (h : i = w1.heap.size) => by omega)).put4 (b := w.heap.size + 2) (fun h => absurd h (by omega)) (.int .i64 r0) (.int .i64 r1) (.int .i64 r2) (.slice A9 (m + 1) k9)
              have HB2 := Lib.hid B2
              have HF2 := Lib.hid F2
              have HR2 := Lib.hid (rd.fr G2 (fun ad h e => by have := hA' ad h; have := HF.out.size; omega))
              have HA2 : Hid (∀ ad, A9 = some ad → w.heap.size ≤ ad.block) := Lib.hid (fun ad h => by have := hA' ad h; have := HF.out.size; omega)
              clear B2 G2 F2 rd hA' BR9
              go_wp2
              exact ret_ct rfl rfl rfl HB2.out Try.underlying67 rfl (by kernel_rfl) ⟨A9, k9, by rw [List.length_append, HML.out]; rfl, by rw [List.length_append, HML.out]; exact HR2.out, fun ad h => .inl (HA2.out ad h), by rw [List.length_append]; exact own_cap HO9.out, HF2.out⟩
          · have hbig2 : ¬ 1024 < r1 := hbig
            go_wp2_with fail
            refine (rbnd wr r0 r1 r2 A m cap ms 2 (HRI.out _ HFW.out) (by omega)).mono ?_
            rintro e w7 ⟨A7, c7, rfl, -, F7⟩
            clear c0 c1 c2 c3 k0 k1 k2 k3 z0 z1 z2 z3
            have HBR7 := Lib.hid (F7.at_ HBRw.out (fun x => x))
            have HF7 := Lib.hid (HFW.out.step F7 nop)
            obtain ⟨c0, c1, c2, c3⟩ := cells4 (F7.at_ HBw.out (fun x => x))
            obtain ⟨e0, e1, e2⟩ := cells3 (F7.at_ HBEw.out (fun x => x))
            obtain ⟨k0, k1, k2, k3⟩ := cells4 HBR7.out
            have z0 := frozen_of HBR7.out 0
            have z1 := frozen_of HBR7.out 1
            have z2 := frozen_of HBR7.out 2
            have z3 := frozen_of HBR7.out 3
            have HFO := Lib.hid (HFO_.out.trans F7 (fun _ _ x => x.elim))
            have HOW := Lib.hid (F7.at_ HG.out (fun h => h))
            have HOWN := Lib.hid (HO.out.fr F7 (fun _ _ x => x))
            clear F7
            obtain ⟨bl, hbl⟩ : ∃ n, (bnd 2 ms).length = n := ⟨_, rfl⟩
            rw [hbl] at hres
            rw [hbl]
            clear hbl
            by_cases hfull : r1 ≤ (bl : Int)
            · rw [if_pos (show RE.room (tri r0 r1 r2 1) ≤ bl from by show RE.room r1 ≤ bl; unfold RE.room; omega)] at hres
              obtain ⟨rfl, rfl⟩ := Prod.mk.inj hres
              have B2 := put4y (y0 := .int .i64 r0) (y1 := .int .i64 r1) (y2 := .int .i64 r2) (y3 := .slice A m cap) HBR7.out
              have F2 := HF7.out.put4 (b := w.heap.size + 2) (fun h => absurd h (by omega)) (.int .i64 r0) (.int .i64 r1) (.int .i64 r2) (.slice A m cap)
              have HB2 := Lib.hid B2
              have HF2 := Lib.hid F2
              clear B2 F2
              go_wp2
              exact ret_ct rfl rfl rfl HB2.out Try.underlying67 rfl (by kernel_rfl) ⟨A, cap, by rw [HML.out]; rfl, by rw [HML.out]; exact HRI.out _ HF2.out, fun ad h => .inr ⟨rfl, HML.out⟩, by rw [HML.out]; exact HCAP.out, HF2.out⟩
            · rw [if_neg (show ¬ RE.room (tri r0 r1 r2 1) ≤ bl from by show ¬ RE.room r1 ≤ bl; unfold RE.room; omega)] at hres
              obtain ⟨rfl, rfl⟩ := Prod.mk.inj hres
              clear k0 k1 k2 k3 z0 z1 z2 z3
              obtain ⟨i0, hii, hz0, hz1, hz2⟩ := info_parts infoIt
              obtain ⟨o0, o1, o2, o3⟩ := cells4 HOW.out
              obtain ⟨u, hu⟩ : ∃ u, ms = u := ⟨_, rfl⟩
              have hul : u.length ≤ 1000 := by rw [← hu]; first | (rw [List.length_map, List.length_take]; omega) | (have := HML.out; omega)
              rw [hu] at HOWN
              have HU := Lib.hid hu
              have hws : wo5.heap.size ≤ w7.heap.size := HFO.out.size
              clear hu
              go_wp2_with (at_builtin; refine append_one EIt 105 rfl _ _ 65 rfl i0 _ 32 Try.underlying65 hii hz0 hz1 hz2 rfl wo5.heap.size _ _ rfl (HOWN.out.alloc _) ⟨w7.heap.size, 0, none⟩ 1 (2, x0, x1, x2) rfl ?c1 ?c2 ?c3 ?c4 ?c5 ?_)
              case c1 => first | exact lit_cells (W := w7) (cs := [.int .u8 2, .int .i64 x0, .bool x1, .int .i64 x2]) rfl | exact fun j u hu => hu
              case c2 => intro u hu; simp [EIt] at hu; rcases hu with rfl | rfl | rfl | rfl <;> rfl
              case c3 => unfold maxLen; omega
              case c4 => omega
              case c5 => first | omega | (simp; omega)
              intro v' w8 hown hgrow
              obtain ⟨A9, k9, hv9, -, -⟩ := hown.reads
              rw [List.length_append, List.length_singleton] at hv9
              subst hv9
              have F8 := ((Fr.refl (fun b => wo5.heap.size ≤ b) w7).alloc (.cells #[.int .u8 2, .int .i64 x0, .bool x1, .int .i64 x2] 105)).grownS hgrow (fun k hk => (HOWN.out.blk k hk).1)
              have G8 := F8.at_ HOW.out (fun h => by omega)
              obtain ⟨g0, g1, g2, g3⟩ := cells4 G8
              have gz := frozen_of G8 3
              have G9 := set_at G8 3 (.slice A9 (u.length + 1) k9)
              simp only [List.setIfInBounds_toArray, List.set_cons_succ, List.set_cons_zero] at G9
              have F9 := (HFO.out.trans F8 (fun i hi (h : wo5.heap.size ≤ i) => absurd h (by omega))).setCell (p := ⟨w1.heap.size, 3, none⟩) (fun _ => rfl) (.slice A9 (u.length + 1) k9)
              have O9 := hown.fr ((Fr.refl (fun i => i = w1.heap.size) w8).setCell (p := ⟨w1.heap.size, 3, none⟩) (fun _ => rfl) (.slice A9 (u.length + 1) k9)) (fun k hk e => by have := (hown.blk k hk).1; omega)
              generalize hw9 : w8.setCell ⟨w1.heap.size, 3, none⟩ (.slice A9 (u.length + 1) k9) = w9 at G9 F9 O9
              have HG9 := Lib.hid G9
              have HF9 := Lib.hid F9
              have HO9 := Lib.hid O9
              clear hgrow hown F8 G8 G9 F9 O9 hii hz0 hz1 hz2
              obtain rfl := HU.out
              obtain ⟨A', k', hv, rd, hA'⟩ := HO9.out.reads
              rw [List.length_append, List.length_singleton, HML.out] at hv rd
              obtain ⟨q1_, q2_, q3_⟩ := Value.slice.inj hv
              subst q1_
              subst q3_
              clear q2_ hv
              rw [HML.out] at HG9 hw9
              have BR9 := HF9.out.at_ HBR.out (fun h => by omega)
              obtain ⟨q0, q1, q2, q3⟩ := cells4 BR9
              obtain ⟨s0, s1, s2, s3⟩ := cells4 HG9.out
              have z0 := frozen_of BR9 0
              have z1 := frozen_of BR9 1
              have z2 := frozen_of BR9 2
              have z3 := frozen_of BR9 3
              have B2 := put4y (y0 := .int .i64 r0) (y1 := .int .i64 r1) (y2 := .int .i64 r2) (y3 := .slice A9 (m + 1) k9) BR9
              have G2 := (Fr.refl (fun i => i = w.heap.size + 2) w9).put4 (b := w.heap.size + 2) (fun _ => rfl) (.int .i64 r0) (.int .i64 r1) (.int .i64 r2) (.slice A9 (m + 1) k9)
              have F2 := (HF.out.trans HF9.out (fun i hi (h : i = w1.heap.size) => by omega)).put4 (b := w.heap.size + 2) (fun h => absurd h (by omega)) (.int .i64 r0) (.int .i64 r1) (.int .i64 r2) (.slice A9 (m + 1) k9)
              have HB2 := Lib.hid B2
              have HF2 := Lib.hid F2
              have HR2 := Lib.hid (rd.fr G2 (fun ad h e => by have := hA' ad h; have := HF.out.size; omega))
              have HA2 : Hid (∀ ad, A9 = some ad → w.heap.size ≤ ad.block) := Lib.hid (fun ad h => by have := hA' ad h; have := HF.out.size; omega)
              clear B2 G2 F2 rd hA' BR9
              go_wp2
              exact ret_ct rfl rfl rfl HB2.out Try.underlying67 rfl (by kernel_rfl) ⟨A9, k9, by rw [List.length_append, HML.out]; rfl, by rw [List.length_append, HML.out]; exact HR2.out, fun ad h => .inl (HA2.out ad h), by rw [List.length_append]; exact own_cap HO9.out, HF2.out⟩
        · have hpe : p = 3 := by have := HP.out; omega
          subst hpe
          clear HP
          by_cases hbig : 1024 < r2
          · go_wp2_with fail
            refine (rbnd wr r0 r1 r2 A m cap ms 3 (HRI.out _ HFW.out) (by omega)).mono ?_
            rintro e w7 ⟨A7, c7, rfl, -, F7⟩
            clear c0 c1 c2 c3 k0 k1 k2 k3 z0 z1 z2 z3
            have HBR7 := Lib.hid (F7.at_ HBRw.out (fun x => x))
            have HF7 := Lib.hid (HFW.out.step F7 nop)
            obtain ⟨c0, c1, c2, c3⟩ := cells4 (F7.at_ HBw.out (fun x => x))
            obtain ⟨e0, e1, e2⟩ := cells3 (F7.at_ HBEw.out (fun x => x))
            obtain ⟨k0, k1, k2, k3⟩ := cells4 HBR7.out
            have z0 := frozen_of HBR7.out 0
            have z1 := frozen_of HBR7.out 1
            have z2 := frozen_of HBR7.out 2
            have z3 := frozen_of HBR7.out 3
            have HFO := Lib.hid (HFO_.out.trans F7 (fun _ _ x => x.elim))
            have HOW := Lib.hid (F7.at_ HG.out (fun h => h))
            have HOWN := Lib.hid (HO.out.fr F7 (fun _ _ x => x))
            clear F7
            obtain ⟨bl, hbl⟩ : ∃ n, (bnd 3 ms).length = n := ⟨_, rfl⟩
            rw [hbl] at hres
            rw [hbl]
            clear hbl
            by_cases hfull : (1024 : Int) ≤ (bl : Int)
            · rw [if_pos (show RE.room (tri r0 r1 r2 2) ≤ bl from by show RE.room r2 ≤ bl; unfold RE.room; omega)] at hres
              obtain ⟨rfl, rfl⟩ := Prod.mk.inj hres
              have B2 := put4y (y0 := .int .i64 r0) (y1 := .int .i64 r1) (y2 := .int .i64 r2) (y3 := .slice A m cap) HBR7.out
              have F2 := HF7.out.put4 (b := w.heap.size + 2) (fun h => absurd h (by omega)) (.int .i64 r0) (.int .i64 r1) (.int .i64 r2) (.slice A m cap)
              have HB2 := Lib.hid B2
              have HF2 := Lib.hid F2
              clear B2 F2
              go_wp2
              exact ret_ct rfl rfl rfl HB2.out Try.underlying67 rfl (by kernel_rfl) ⟨A, cap, by rw [HML.out]; rfl, by rw [HML.out]; exact HRI.out _ HF2.out, fun ad h => .inr ⟨rfl, HML.out⟩, by rw [HML.out]; exact HCAP.out, HF2.out⟩
            · rw [if_neg (show ¬ RE.room (tri r0 r1 r2 2) ≤ bl from by show ¬ RE.room r2 ≤ bl; unfold RE.room; omega)] at hres
              obtain ⟨rfl, rfl⟩ := Prod.mk.inj hres
              clear k0 k1 k2 k3 z0 z1 z2 z3
              obtain ⟨i0, hii, hz0, hz1, hz2⟩ := info_parts infoIt
              obtain ⟨o0, o1, o2, o3⟩ := cells4 HOW.out
              obtain ⟨u, hu⟩ : ∃ u, ms = u := ⟨_, rfl⟩
              have hul : u.length ≤ 1000 := by rw [← hu]; first | (rw [List.length_map, List.length_take]; omega) | (have := HML.out; omega)
              rw [hu] at HOWN
              have HU := Lib.hid hu
              have hws : wo5.heap.size ≤ w7.heap.size := HFO.out.size
              clear hu
              go_wp2_with (at_builtin; refine append_one EIt 105 rfl _ _ 65 rfl i0 _ 32 Try.underlying65 hii hz0 hz1 hz2 rfl wo5.heap.size _ _ rfl (HOWN.out.alloc _) ⟨w7.heap.size, 0, none⟩ 1 (3, x0, x1, x2) rfl ?c1 ?c2 ?c3 ?c4 ?c5 ?_)
              case c1 => first | exact lit_cells (W := w7) (cs := [.int .u8 3, .int .i64 x0, .bool x1, .int .i64 x2]) rfl | exact fun j u hu => hu
              case c2 => intro u hu; simp [EIt] at hu; rcases hu with rfl | rfl | rfl | rfl <;> rfl
              case c3 => unfold maxLen; omega
              case c4 => omega
              case c5 => first | omega | (simp; omega)
              intro v' w8 hown hgrow
              obtain ⟨A9, k9, hv9, -, -⟩ := hown.reads
              rw [List.length_append, List.length_singleton] at hv9
              subst hv9
              have F8 := ((Fr.refl (fun b => wo5.heap.size ≤ b) w7).alloc (.cells #[.int .u8 3, .int .i64 x0, .bool x1, .int .i64 x2] 105)).grownS hgrow (fun k hk => (HOWN.out.blk k hk).1)
              have G8 := F8.at_ HOW.out (fun h => by omega)
              obtain ⟨g0, g1, g2, g3⟩ := cells4 G8
              have gz := frozen_of G8 3
              have G9 := set_at G8 3 (.slice A9 (u.length + 1) k9)
              simp only [List.setIfInBounds_toArray, List.set_cons_succ, List.set_cons_zero] at G9
              have F9 := (HFO.out.trans F8 (fun i hi (h : wo5.heap.size ≤ i) => absurd h (by omega))).setCell (p := ⟨w1.heap.size, 3, none⟩) (fun _ => rfl) (.slice A9 (u.length + 1) k9)
              have O9 := hown.fr ((Fr.refl (fun i => i = w1.heap.size) w8).setCell (p := ⟨w1.heap.size, 3, none⟩) (fun _ => rfl) (.slice A9 (u.length + 1) k9)) (fun k hk e => by have := (hown.blk k hk).1; omega)
              generalize hw9 : w8.setCell ⟨w1.heap.size, 3, none⟩ (.slice A9 (u.length + 1) k9) = w9 at G9 F9 O9
              have HG9 := Lib.hid G9
              have HF9 := Lib.hid F9
              have HO9 := Lib.hid O9
              clear hgrow hown F8 G8 G9 F9 O9 hii hz0 hz1 hz2
              obtain rfl := HU.out
              obtain ⟨A', k', hv, rd, hA'⟩ := HO9.out.reads
              rw [List.length_append, List.length_singleton, HML.out] at hv rd
              obtain ⟨q1_, q2_, q3_⟩ := Value.slice.inj hv
              subst q1_
              subst q3_
              clear q2_ hv
              rw [HML.out] at HG9 hw9
              have BR9 := HF9.out.at_ HBR.out (fun h => by omega)
              obtain ⟨q0, q1, q2, q3⟩ := cells4 BR9
              obtain ⟨s0, s1, s2, s3⟩ := cells4 HG9.out
              have z0 := frozen_of BR9 0
              have z1 := frozen_of BR9 1
              have z2 := frozen_of BR9 2
              have z3 := frozen_of BR9 3
              have B2 := put4y (y0 := .int .i64 r0) (y1 := .int .i64 r1) (y2 := .int .i64 r2) (y3 := .slice A9 (m + 1) k9) BR9
              have G2 := (Fr.refl (fun i => i = w.heap.size + 2) w9).put4 (b := w.heap.size + 2) (fun _ => rfl) (.int .i64 r0) (.int .i64 r1) (.int .i64 r2) (.slice A9 (m + 1) k9)
              have F2 := (HF.out.trans HF9.out (fun i hi (h : i = w1.heap.size) => by omega)).put4 (b := w.heap.size + 2) (fun h => absurd h (by omega)) (.int .i64 r0) (.int .i64 r1) (.int .i64 r2) (.slice A9 (m + 1) k9)
              have HB2 := Lib.hid B2
              have HF2 := Lib.hid F2
              have HR2 := Lib.hid (rd.fr G2 (fun ad h e => by have := hA' ad h; have := HF.out.size; omega))
              have HA2 : Hid (∀ ad, A9 = some ad → w.heap.size ≤ ad.block) := Lib.hid (fun ad h => by have := hA' ad h; have := HF.out.size; omega)
              clear B2 G2 F2 rd hA' BR9
              go_wp2
              exact ret_ct rfl rfl rfl HB2.out Try.underlying67 rfl (by kernel_rfl) ⟨A9, k9, by rw [List.length_append, HML.out]; rfl, by rw [List.length_append, HML.out]; exact HR2.out, fun ad h => .inl (HA2.out ad h), by rw [List.length_append]; exact own_cap HO9.out, HF2.out⟩
          · have hbig2 : ¬ 1024 < r2 := hbig
            go_wp2_with fail
            refine (rbnd wr r0 r1 r2 A m cap ms 3 (HRI.out _ HFW.out) (by omega)).mono ?_
            rintro e w7 ⟨A7, c7, rfl, -, F7⟩
            clear c0 c1 c2 c3 k0 k1 k2 k3 z0 z1 z2 z3
            have HBR7 := Lib.hid (F7.at_ HBRw.out (fun x => x))
            have HF7 := Lib.hid (HFW.out.step F7 nop)
            obtain ⟨c0, c1, c2, c3⟩ := cells4 (F7.at_ HBw.out (fun x => x))
            obtain ⟨e0, e1, e2⟩ := cells3 (F7.at_ HBEw.out (fun x => x))
            obtain ⟨k0, k1, k2, k3⟩ := cells4 HBR7.out
            have z0 := frozen_of HBR7.out 0
            have z1 := frozen_of HBR7.out 1
            have z2 := frozen_of HBR7.out 2
            have z3 := frozen_of HBR7.out 3
            have HFO := Lib.hid (HFO_.out.trans F7 (fun _ _ x => x.elim))
            have HOW := Lib.hid (F7.at_ HG.out (fun h => h))
            have HOWN := Lib.hid (HO.out.fr F7 (fun _ _ x => x))
            clear F7
            obtain ⟨bl, hbl⟩ : ∃ n, (bnd 3 ms).length = n := ⟨_, rfl⟩
            rw [hbl] at hres
            rw [hbl]
            clear hbl
            by_cases hfull : r2 ≤ (bl : Int)
            · rw [if_pos (show RE.room (tri r0 r1 r2 2) ≤ bl from by show RE.room r2 ≤ bl; unfold RE.room; omega)] at hres
              obtain ⟨rfl, rfl⟩ := Prod.mk.inj hres
              have B2 := put4y (y0 := .int .i64 r0) (y1 := .int .i64 r1) (y2 := .int .i64 r2) (y3 := .slice A m cap) HBR7.out
              have F2 := HF7.out.put4 (b := w.heap.size + 2) (fun h => absurd h (by omega)) (.int .i64 r0) (.int .i64 r1) (.int .i64 r2) (.slice A m cap)
              have HB2 := Lib.hid B2
              have HF2 := Lib.hid F2
              clear B2 F2
              go_wp2
              exact ret_ct rfl rfl rfl HB2.out Try.underlying67 rfl (by kernel_rfl) ⟨A, cap, by rw [HML.out]; rfl, by rw [HML.out]; exact HRI.out _ HF2.out, fun ad h => .inr ⟨rfl, HML.out⟩, by rw [HML.out]; exact HCAP.out, HF2.out⟩
            · rw [if_neg (show ¬ RE.room (tri r0 r1 r2 2) ≤ bl from by show ¬ RE.room r2 ≤ bl; unfold RE.room; omega)] at hres
              obtain ⟨rfl, rfl⟩ := Prod.mk.inj hres
              clear k0 k1 k2 k3 z0 z1 z2 z3
              obtain ⟨i0, hii, hz0, hz1, hz2⟩ := info_parts infoIt
              obtain ⟨o0, o1, o2, o3⟩ := cells4 HOW.out
              obtain ⟨u, hu⟩ : ∃ u, ms = u := ⟨_, rfl⟩
              have hul : u.length ≤ 1000 := by rw [← hu]; first | (rw [List.length_map, List.length_take]; omega) | (have := HML.out; omega)
              rw [hu] at HOWN
              have HU := Lib.hid hu
              have hws : wo5.heap.size ≤ w7.heap.size := HFO.out.size
              clear hu
              go_wp2_with (at_builtin; refine append_one EIt 105 rfl _ _ 65 rfl i0 _ 32 Try.underlying65 hii hz0 hz1 hz2 rfl wo5.heap.size _ _ rfl (HOWN.out.alloc _) ⟨w7.heap.size, 0, none⟩ 1 (3, x0, x1, x2) rfl ?c1 ?c2 ?c3 ?c4 ?c5 ?_)
              case c1 => first | exact lit_cells (W := w7) (cs := [.int .u8 3, .int .i64 x0, .bool x1, .int .i64 x2]) rfl | exact fun j u hu => hu
              case c2 => intro u hu; simp [EIt] at hu; rcases hu with rfl | rfl | rfl | rfl <;> rfl
              case c3 => unfold maxLen; omega
              case c4 => omega
              case c5 => first | omega | (simp; omega)
              intro v' w8 hown hgrow
              obtain ⟨A9, k9, hv9, -, -⟩ := hown.reads
              rw [List.length_append, List.length_singleton] at hv9
              subst hv9
              have F8 := ((Fr.refl (fun b => wo5.heap.size ≤ b) w7).alloc (.cells #[.int .u8 3, .int .i64 x0, .bool x1, .int .i64 x2] 105)).grownS hgrow (fun k hk => (HOWN.out.blk k hk).1)
              have G8 := F8.at_ HOW.out (fun h => by omega)
              obtain ⟨g0, g1, g2, g3⟩ := cells4 G8
              have gz := frozen_of G8 3
              have G9 := set_at G8 3 (.slice A9 (u.length + 1) k9)
              simp only [List.setIfInBounds_toArray, List.set_cons_succ, List.set_cons_zero] at G9
              have F9 := (HFO.out.trans F8 (fun i hi (h : wo5.heap.size ≤ i) => absurd h (by omega))).setCell (p := ⟨w1.heap.size, 3, none⟩) (fun _ => rfl) (.slice A9 (u.length + 1) k9)
              have O9 := hown.fr ((Fr.refl (fun i => i = w1.heap.size) w8).setCell (p := ⟨w1.heap.size, 3, none⟩) (fun _ => rfl) (.slice A9 (u.length + 1) k9)) (fun k hk e => by have := (hown.blk k hk).1; omega)
              generalize hw9 : w8.setCell ⟨w1.heap.size, 3, none⟩ (.slice A9 (u.length + 1) k9) = w9 at G9 F9 O9
              have HG9 := Lib.hid G9
              have HF9 := Lib.hid F9
              have HO9 := Lib.hid O9
              clear hgrow hown F8 G8 G9 F9 O9 hii hz0 hz1 hz2
              obtain rfl := HU.out
              obtain ⟨A', k', hv, rd, hA'⟩ := HO9.out.reads
              rw [List.length_append, List.length_singleton, HML.out] at hv rd
              obtain ⟨q1_, q2_, q3_⟩ := Value.slice.inj hv
              subst q1_
              subst q3_
              clear q2_ hv
              rw [HML.out] at HG9 hw9
              have BR9 := HF9.out.at_ HBR.out (fun h => by omega)
              obtain ⟨q0, q1, q2, q3⟩ := cells4 BR9
              obtain ⟨s0, s1, s2, s3⟩ := cells4 HG9.out
              have z0 := frozen_of BR9 0
              have z1 := frozen_of BR9 1
              have z2 := frozen_of BR9 2
              have z3 := frozen_of BR9 3
              have B2 := put4y (y0 := .int .i64 r0) (y1 := .int .i64 r1) (y2 := .int .i64 r2) (y3 := .slice A9 (m + 1) k9) BR9
              have G2 := (Fr.refl (fun i => i = w.heap.size + 2) w9).put4 (b := w.heap.size + 2) (fun _ => rfl) (.int .i64 r0) (.int .i64 r1) (.int .i64 r2) (.slice A9 (m + 1) k9)
              have F2 := (HF.out.trans HF9.out (fun i hi (h : i = w1.heap.size) => by omega)).put4 (b := w.heap.size + 2) (fun h => absurd h (by omega)) (.int .i64 r0) (.int .i64 r1) (.int .i64 r2) (.slice A9 (m + 1) k9)
              have HB2 := Lib.hid B2
              have HF2 := Lib.hid F2
              have HR2 := Lib.hid (rd.fr G2 (fun ad h e => by have := hA' ad h; have := HF.out.size; omega))
              have HA2 : Hid (∀ ad, A9 = some ad → w.heap.size ≤ ad.block) := Lib.hid (fun ad h => by have := hA' ad h; have := HF.out.size; omega)
              clear B2 G2 F2 rd hA' BR9
              go_wp2
              exact ret_ct rfl rfl rfl HB2.out Try.underlying67 rfl (by kernel_rfl) ⟨A9, k9, by rw [List.length_append, HML.out]; rfl, by rw [List.length_append, HML.out]; exact HR2.out, fun ad h => .inl (HA2.out ad h), by rw [List.length_append]; exact own_cap HO9.out, HF2.out⟩

end Go.Proofs.Ytahddolplklopaa
