/- Bx. -/
import Derived.Test.YtcpapadkdeajaaaChecked
import Derived.WalkKit
import Derived.Laws.IdiomCopy
import Derived.Deep.QuietTactic
import Derived.BigQuiet
import Derived.Lib.Hide
import Derived.OpenShut
import Derived.StillTailTactics
import Derived.Deep.RegionWith
import Derived.Deep.RegionLaw
import Derived.Deep.Slices
import Derived.Deep.RegionHeld3
import Derived.OwnWalk
import Derived.Test.YtcpapadkdeajaaaBase
import Derived.Test.YtcpapadkdeajaaaCalm
import Derived.Test.YtcpapadkdeajaaaCalmT
import Derived.Test.YtcpapadkdeajaaaCel
import Derived.Test.YtcpapadkdeajaaaApp
import Derived.Test.YtcpapadkdeajaaaRE
import Derived.Test.YtcpapadkdeajaaaREB
import Derived.Test.YtcpapadkdeajaaaREC
import Derived.Test.YtcpapadkdeajaaaREA
import Derived.Test.YtcpapadkdeajaaaBq
import Derived.Test.YtcpapadkdeajaaaBp
namespace Go.Proofs.Ytcpapadkdeajaaa
open Go.RowKit
set_option linter.unusedVariables false
set_option linter.unusedSimpArgs false

/-! ### Puts and takes -/
section
variable {w w' : World} {q : Nat} {qs : Nat → Nat × Nat} {cs : Nat → Nat} {ls : Nat → List Ev}
theorem qput_p (h : Qu w q qs cs ls) {i : Nat} (hi : i < 3) {p : Int} (hp : p = (i : Int) + 1) (x0 : Int) (x1 : Bool) (x2 : Int) {c' : Int} {l' : List Ev} (hrr : putB (cs i) (ls i) (x0, x1, x2) = (c', l')) :
    Calls Try.prog 10 #[.pointer (some ⟨q, 0, none⟩), .int .u8 p, .agg #[.int .i64 x0, .bool x1, .int .i64 x2]] w
      fun e w' => e = .returned (.int .i64 c') ∧ Qu w' q qs cs (upd ls i l') ∧ Fr (inQ q qs) w w' := by
  subst hp; exact qput h hi x0 x1 x2 hrr
theorem qtake_at (h : Qu w q qs cs ls) {i : Nat} (hi : i < 3) {x0 : Int} {x1 : Bool} {x2 : Int} {l : List Ev} (hl : ls i = (x0, x1, x2) :: l) (hab : ∀ m, i < m → m < 3 → ls m = []) {p : Int} (hp : (i : Int) + 1 = p) :
    Calls Try.prog 11 #[.pointer (some ⟨q, 0, none⟩)] w fun e w' => e = .returned (.tuple #[.agg #[.int .i64 x0, .bool x1, .int .i64 x2], .int .u8 p, .bool true]) ∧ Qu w' q qs cs (upd ls i l) ∧ Fr (inQ q qs) w w' := by
  subst hp
  refine (qtake h).mono fun e w' hh => ?_
  rcases hh with ⟨h1, _, _⟩ | ⟨j, y0, y1, y2, l', hj, h1, h2, he, hq, hf⟩
  · rw [h1 i hi] at hl; cases hl
  · have hij : j = i := by
      rcases Nat.lt_trichotomy j i with h3 | h3 | h3
      · rw [h2 i h3 hi] at hl; cases hl
      · exact h3
      · rw [hab j h3 hj] at h1; cases h1
    subst hij
    rw [hl] at h1
    cases h1
    exact ⟨he, hq, hf⟩
theorem qtake_none (h : Qu w q qs cs ls) (hn : ∀ m, m < 3 → ls m = []) :
    Calls Try.prog 11 #[.pointer (some ⟨q, 0, none⟩)] w fun e w' => e = .returned (.tuple #[.agg #[.int .i64 0, .bool false, .int .i64 0], .int .u8 0, .bool false]) ∧ Fr (fun _ => False) w w' := by
  refine (qtake h).mono fun e w' hh => ?_
  rcases hh with ⟨h1, he, hf⟩ | ⟨j, y0, y1, y2, l', hj, h1, h2, he, hq, hf⟩
  · exact ⟨he, hf⟩
  · rw [hn j hj] at h1; cases h1
end
theorem room_nat {n : Nat} (h : n ≤ 1024) : RE.room (n : Int) = n := by unfold RE.room; omega
def tot (ls : Nat → List Ev) : Nat := (ls 0).length + (ls 1).length + (ls 2).length
theorem tot_upd (ls : Nat → List Ev) {i : Nat} (hi : i < 3) (l : List Ev) : tot (upd ls i l) + (ls i).length = tot ls + l.length := by
  rcases (by omega : i = 0 ∨ i = 1 ∨ i = 2) with rfl | rfl | rfl <;> simp [tot, upd] <;> omega
/-! ### first -/
set_option maxRecDepth 100000 in
set_option maxHeartbeats 3200000 in
theorem first_any (w : World) : Calls Try.prog 8 #[] w fun e w' => e = .returned (.bool true) ∧ Fr (fun _ => False) w w' := by
  go_enter Try.func8, Try.ntmps8
  go_wp2_with fail
  refine (qnew w 1 1 1).mono ?_
  rintro e w1 ⟨q, qs, rfl, Q1, F1, hup⟩
  have HUP := Lib.hid hup
  have HQ1 := Lib.hid Q1
  have HF1 := Lib.hid F1
  clear Q1 F1 hup
  go_wp2_with fail
  refine (qput_p HQ1.out (i := 0) (by omega) (by rfl) 4 false 0 (c' := 0) (l' := [(4, false, 0)]) (by decide)).mono ?_
  rintro e w2 ⟨rfl, Q2, F2⟩
  have HQ2 := Lib.hid Q2
  have HF2 := Lib.hid (HF1.out.step F2 HUP.out)
  clear Q2 F2 HQ1 HF1
  go_wp2_with fail
  refine (qput_p HQ2.out (i := 2) (by omega) (by rfl) 2 false 0 (c' := 0) (l' := [(2, false, 0)]) (by decide)).mono ?_
  rintro e w3 ⟨rfl, Q3, F3⟩
  have HQ3 := Lib.hid Q3
  have HF3 := Lib.hid (HF2.out.step F3 HUP.out)
  clear Q3 F3 HQ2 HF2
  go_wp2_with fail
  refine (qtake_at HQ3.out (i := 2) (by omega) (x0 := 2) (x1 := false) (x2 := 0) (l := []) rfl (fun m h1 h2 => absurd h1 (by omega)) (p := 3) (by rfl)).mono ?_
  rintro e w4 ⟨rfl, Q4, F4⟩
  have HQ4 := Lib.hid Q4
  have HF4 := Lib.hid (HF3.out.step F4 HUP.out)
  clear Q4 F4 HQ3 HF3
  have Bz6 : (w4.alloc (.cells #[.int .i64 0, .bool false, .int .i64 0] 30)).heap[w4.heap.size]? = some (.cells #[.int .i64 0, .bool false, .int .i64 0] 30 (0, 0)) := alloc_is _ rfl
  have Fz6 := (Fr.refl (fun _ => False) w4).alloc (.cells #[.int .i64 0, .bool false, .int .i64 0] 30)
  generalize hwm6 : w4.alloc (.cells #[.int .i64 0, .bool false, .int .i64 0] 30) = wm6 at Bz6 Fz6
  obtain ⟨c6_0, c6_1, c6_2⟩ := cells3 Bz6
  have z6_0 := frozen_of Bz6 0
  have z6_1 := frozen_of Bz6 1
  have z6_2 := frozen_of Bz6 2
  have B6 := put3y (y0 := .int .i64 2) (y1 := .bool false) (y2 := .int .i64 0) Bz6
  have Fo6 := (Fr.refl (fun i => i = w4.heap.size) wm6).put3 (b := w4.heap.size) (fun _ => rfl) (.int .i64 2) (.bool false) (.int .i64 0)
  generalize hwo6 : (((wm6.setCell ⟨w4.heap.size, 0, none⟩ (.int .i64 2)).setCell ⟨w4.heap.size, 1, none⟩ (.bool false)).setCell ⟨w4.heap.size, 2, none⟩ (.int .i64 0)) = wo6 at B6 Fo6
  have FF6 := Fz6.trans Fo6 (fun i hi (h : i = w4.heap.size) => by omega)
  obtain ⟨d6_0, d6_1, d6_2⟩ := cells3 B6
  have HQ5 := Lib.hid (HQ4.out.calm FF6)
  have HF5 := Lib.hid (HF4.out.step FF6 nop)
  have HB6 := Lib.hid B6
  have HN5 : Hid (¬ inQ q qs w4.heap.size) := Lib.hid (fun hh => by have := HQ4.out.in_ hh; omega)
  go_wp2_with fail
  refine (qtake_at HQ5.out (i := 0) (by omega) (x0 := 4) (x1 := false) (x2 := 0) (l := []) rfl (fun m h1 h2 => by rcases (by omega : m = 1 ∨ m = 2) with rfl | rfl <;> rfl) (p := 1) (by rfl)).mono ?_
  rintro e w6 ⟨rfl, Q6, F6⟩
  clear c6_0 z6_0 c6_1 z6_1 c6_2 z6_2 d6_0 d6_1 d6_2 Bz6 Fz6 Fo6 hwm6 hwo6
  have HB7 := Lib.hid (F6.at_ HB6.out HN5.out)
  have HF6 := Lib.hid (HF5.out.step F6 HUP.out)
  clear Q6 F6 B6 FF6 HB6 HQ5 HF5 HQ4 HF4
  have Bz7 : (w6.alloc (.cells #[.int .i64 0, .bool false, .int .i64 0] 30)).heap[w6.heap.size]? = some (.cells #[.int .i64 0, .bool false, .int .i64 0] 30 (0, 0)) := alloc_is _ rfl
  have Fz7 := (Fr.refl (fun _ => False) w6).alloc (.cells #[.int .i64 0, .bool false, .int .i64 0] 30)
  generalize hwm7 : w6.alloc (.cells #[.int .i64 0, .bool false, .int .i64 0] 30) = wm7 at Bz7 Fz7
  obtain ⟨c7_0, c7_1, c7_2⟩ := cells3 Bz7
  have z7_0 := frozen_of Bz7 0
  have z7_1 := frozen_of Bz7 1
  have z7_2 := frozen_of Bz7 2
  have B7 := put3y (y0 := .int .i64 4) (y1 := .bool false) (y2 := .int .i64 0) Bz7
  have Fo7 := (Fr.refl (fun i => i = w6.heap.size) wm7).put3 (b := w6.heap.size) (fun _ => rfl) (.int .i64 4) (.bool false) (.int .i64 0)
  generalize hwo7 : (((wm7.setCell ⟨w6.heap.size, 0, none⟩ (.int .i64 4)).setCell ⟨w6.heap.size, 1, none⟩ (.bool false)).setCell ⟨w6.heap.size, 2, none⟩ (.int .i64 0)) = wo7 at B7 Fo7
  have FF7 := Fz7.trans Fo7 (fun i hi (h : i = w6.heap.size) => by omega)
  obtain ⟨d7_0, d7_1, d7_2⟩ := cells3 B7
  have HF7 := Lib.hid (HF6.out.step FF7 nop)
  obtain ⟨b0, b1, b2⟩ := cells3 (FF7.at_ HB7.out (fun x => x))
  go_wp2
  go_ret
  exact ⟨rfl, HF7.out⟩

end Go.Proofs.Ytcpapadkdeajaaa
