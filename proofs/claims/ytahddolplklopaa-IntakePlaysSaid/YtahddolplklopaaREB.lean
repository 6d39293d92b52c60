/- REB. -/
import Derived.Test.YtahddolplklopaaChecked
import Derived.WalkKit
import Derived.Laws.IdiomCopy
import Derived.Deep.QuietTactic
import Derived.BigQuiet
import Derived.Lib.Hide
import Derived.OpenShut
import Derived.StillTailTactics
import Derived.Deep.RegionWith
import Derived.Deep.RegionLaw
import Derived.Deep.Slices
import Derived.Deep.RegionHeld3
import Derived.OwnWalk
import Derived.Test.YtahddolplklopaaBase
import Derived.Test.YtahddolplklopaaCalm
import Derived.Test.YtahddolplklopaaCalmT
import Derived.Test.YtahddolplklopaaCel
import Derived.Test.YtahddolplklopaaRE
namespace Go.Proofs.Ytahddolplklopaa
open Go.RowKit
set_option linter.unusedVariables false
set_option linter.unusedSimpArgs false

namespace RE
section
variable {w : World} {b a c f n : Nat} {ys : List (Int × Bool × Int)}
theorem has0_yes (h : Rw w b a c f n ys) (hn : 0 < n) :
    Calls Try.prog 46 #[.pointer (some ⟨b, 0, none⟩), .int .i64 0] w fun e w' => e = .returned (.bool true) ∧ w = w' := has_yes h 0 hn
theorem has0_no (h : Rw w b a c f n ys) (hn : n = 0) :
    Calls Try.prog 46 #[.pointer (some ⟨b, 0, none⟩), .int .i64 0] w fun e w' => e = .returned (.bool false) ∧ w = w' := has_no h 0 (by omega)
theorem place0 (h : Rw w b a c f n ys) (hf : f < c) :
    Calls Try.prog 45 #[.pointer (some ⟨b, 0, none⟩), .int .i64 0] w fun e w' => e = .returned (.pointer (some ⟨a, f * 3, none⟩)) ∧ ∃ m, w' = w.drewN m := place_any h 0 f (Nat.mod_eq_of_lt hf) hf (by omega)
theorem place0f (h : Rw w b a c f n ys) (hf : f < c) :
    Calls Try.prog 45 #[.pointer (some ⟨b, 0, none⟩), .int .i64 0] w fun e w' => e = .returned (.pointer (some ⟨a, f * 3, none⟩)) ∧ Fr (fun _ => False) w w' := place_fr h 0 f (Nat.mod_eq_of_lt hf) hf (by omega)
set_option maxRecDepth 100000 in
set_option maxHeartbeats 3200000 in
theorem pop_yes (h : Rw w b a c f n ys) (hn : 0 < n) {y0 y1 y2} (hy : ys.getD f E.z = (y0, y1, y2)) :
    Calls Try.prog 42 #[.pointer (some ⟨b, 0, none⟩)] w fun e w' => e = .returned (.tuple #[.agg #[.int .i64 y0, .bool y1, .int .i64 y2], .bool true]) ∧ Rw w' b a c ((f + 1) % c) (n - 1) (ys.set f E.z) ∧ Fr (fun k => k = b ∨ k = a) w w' := by
  have hf : f < c := by have := h.fst; have := h.num; omega
  have hc := h.cap
  have hnc := h.num
  have hlb := h.lb
  have hla := h.la
  have hab := h.ne
  have h1 := (h.alloc (.cells #[.int .i64 0, .bool false, .int .i64 0] 56)).alloc (.cells #[.int .i64 0, .bool false, .int .i64 0] 56)
  have B2 := alloc_at (alloc_is (w := w) (n := w.heap.size) (.cells #[.int .i64 0, .bool false, .int .i64 0] 56) rfl) (.cells #[.int .i64 0, .bool false, .int .i64 0] 56)
  have B4 := alloc_is (w := w.alloc (.cells #[.int .i64 0, .bool false, .int .i64 0] 56)) (n := w.heap.size + 1) (.cells #[.int .i64 0, .bool false, .int .i64 0] 56) (by simp)
  have F1 := ((Fr.refl (fun k => k = b ∨ k = a) w).alloc (.cells #[.int .i64 0, .bool false, .int .i64 0] 56)).alloc (.cells #[.int .i64 0, .bool false, .int .i64 0] 56)
  have hsz : ((w.alloc (.cells #[.int .i64 0, .bool false, .int .i64 0] 56)).alloc (.cells #[.int .i64 0, .bool false, .int .i64 0] 56)).heap.size = w.heap.size + 2 := by simp
  generalize hw1 : (w.alloc (.cells #[.int .i64 0, .bool false, .int .i64 0] 56)).alloc (.cells #[.int .i64 0, .bool false, .int .i64 0] 56) = w1 at h1 B2 B4 F1 hsz
  have HS := Lib.hid hsz
  clear hsz
  go_enter Try.func42, Try.ntmps42
  go_wp2_with fail
  refine (has0_yes h1 hn).mono ?_
  rintro e w' ⟨rfl, rfl⟩
  go_wp2_with fail
  refine (place0 h1 hf).mono ?_
  rintro e w' ⟨rfl, m, rfl⟩
  have h2 := h1.drewN m
  have B22 : (w1.drewN m).heap[w.heap.size]? = _ := B2
  have B42 : (w1.drewN m).heap[w.heap.size + 1]? = _ := B4
  have F2 := F1.drewN m
  have hs2 : (w1.drewN m).heap.size = w.heap.size + 2 := HS.out
  have HS2 := Lib.hid hs2
  generalize w1.drewN m = w2 at h2 B22 B42 F2 HS2 ⊢
  clear h1 B2 B4 F1 hw1 HS hs2
  obtain ⟨l0, l1, l2⟩ := get1 h2 hf hy
  have Bz5 : (w2.alloc (.cells #[.int .i64 0, .bool false, .int .i64 0] 56)).heap[w2.heap.size]? = some (.cells #[.int .i64 0, .bool false, .int .i64 0] 56 (0, 0)) := alloc_is _ rfl
  have Fz5 := (Fr.refl (fun _ => False) w2).alloc (.cells #[.int .i64 0, .bool false, .int .i64 0] 56)
  generalize hwm5 : w2.alloc (.cells #[.int .i64 0, .bool false, .int .i64 0] 56) = wm5 at Bz5 Fz5
  obtain ⟨c5_0, c5_1, c5_2⟩ := cells3 Bz5
  have z5_0 := frozen_of Bz5 0
  have z5_1 := frozen_of Bz5 1
  have z5_2 := frozen_of Bz5 2
  have B5 := put3y (y0 := .int .i64 y0) (y1 := .bool y1) (y2 := .int .i64 y2) Bz5
  have Fo5 := (Fr.refl (fun i => i = w2.heap.size) wm5).put3 (b := w2.heap.size) (fun _ => rfl) (.int .i64 y0) (.bool y1) (.int .i64 y2)
  generalize hwo5 : (((wm5.setCell ⟨w2.heap.size, 0, none⟩ (.int .i64 y0)).setCell ⟨w2.heap.size, 1, none⟩ (.bool y1)).setCell ⟨w2.heap.size, 2, none⟩ (.int .i64 y2)) = wo5 at B5 Fo5
  have FF5 := Fz5.trans Fo5 (fun i hi (h : i = w2.heap.size) => by omega)
  obtain ⟨d5_0, d5_1, d5_2⟩ := cells3 B5
  have h5 := h2.fr FF5 (fun x => x) (fun x => x)
  have B25 := FF5.at_ B22 (fun x => x)
  have B45 := FF5.at_ B42 (fun x => x)
  have F5 := F2.trans FF5 (fun _ _ x => x.elim)
  have hge : w.heap.size + 2 = w2.heap.size := HS2.out.symm
  have HGE := Lib.hid hge
  clear hge
  go_wp2_with fail
  obtain ⟨m0, m1, m2⟩ := Calm.cellsT B45
  have HP := Lib.hid (fun x : Calm wo5 => place0f (h5.fr x.fr (fun x => x) (fun x => x)) hf)
  (refine wp_region_calm_tail 4 (by kernel_rfl) (by kernel_rfl) ?_; simp only [List.take_succ_cons, List.take_zero, List.drop_succ_cons, List.drop_zero]; (repeat (go_big_quiet_step ((go_at_call 45; exact Calm.of (HP.out _))))); refine wpQuiet_nil ?_; intro _ hwq0; obtain ⟨nq, hwq1⟩ := hwq0; subst hwq1)
  have h6 := h5.fr nq.fr (fun x => x) (fun x => x)
  have B26 := nq.fr.at_ B25 (fun x => x)
  have B56 := nq.fr.at_ B5 (fun x => x)
  have F6 := F5.trans nq.fr (fun _ _ x => x.elim)
  generalize nq.to = w6 at h6 B26 B56 F6 ⊢
  clear m0 m1 m2 l0 l1 l2 HP h5 B25 B45 F5 B5 FF5 h2 B22 B42 F2
  clear c5_0 z5_0 c5_1 z5_1 c5_2 z5_2 d5_0 d5_1 d5_2 Bz5 Fz5 Fo5 hwm5 hwo5
  obtain ⟨l0, l1, l2⟩ := get1 h6 hf hy
  have zz0 := h6.za (f * 3)
  have zz1 := h6.za (f * 3 + 1)
  have zz2 := h6.za (f * 3 + 2)
  have R7 := put1 h6 f 0 false 0 hf
  have F7 := putF (a := a) F6 (fun _ => .inr rfl) f 0 false 0
  have G7 := putF (a := a) (Fr.refl (fun k => k = a) w6) (fun _ => rfl) f 0 false 0
  have hsb : w.heap.size ≠ a := by omega
  have h5a : w2.heap.size ≠ a := by have := HGE.out; omega
  have h5b : w2.heap.size ≠ b := by have := HGE.out; omega
  have hwb : w.heap.size ≠ b := by omega
  have B27 := G7.at_ B26 (fun h => hsb h)
  have B57 := G7.at_ B56 (fun h => h5a h)
  clear G7
  generalize hw7 : ((w6.setCell ⟨a, f * 3, none⟩ (.int .i64 0)).setCell ⟨a, f * 3 + 1, none⟩ (.bool false)).setCell ⟨a, f * 3 + 2, none⟩ (.int .i64 0) = w7 at R7 F7 B27 B57
  obtain ⟨q, hq⟩ : ∃ q, q = (f + 1) % c := ⟨_, rfl⟩
  have hqc : q < c := by rw [hq]; exact Nat.mod_lt _ (by omega)
  have e1 : IntKind.i64.wrap ((f : Int) + 1) = (f : Int) + 1 := wrap_in (by omega) (by omega)
  have e2 : Int.tmod ((f : Int) + 1) c = (q : Int) := by
    rw [Int.tmod_eq_emod_of_nonneg (by omega), hq]; simp
  have e3 : IntKind.i64.wrap (q : Int) = (q : Int) := wrap_in (by omega) (by omega)
  have e4 : ((c : Int) == 0) = false := by simp; omega
  have e5 : (q : Int) < c := by omega
  have e6 : 0 < (n : Int) := by omega
  have HQ := Lib.hid hq
  have ec : ((n - 1 : Nat) : Int) = (n : Int) - 1 := by omega
  have HEC := Lib.hid ec
  clear hq ec
  have hy2 := Lib.hid hy
  clear hy h
  go_wp2_with fail
  clear l0 l1 l2 zz0 zz1 zz2 h6 hw7 B26 B56 F6
  have g0 := R7.c0
  have g1 := R7.c1
  have z1 := R7.z 1
  go_region
  clear e1 e2 e3 e4
  have R8 := (R7.setf q hqc).drew
  have F8 := (F7.setCell (p := ⟨b, 1, none⟩) (fun _ => .inl rfl) (.int .i64 q)).drew
  have G8 := ((Fr.refl (fun k => k = b) w7).setCell (p := ⟨b, 1, none⟩) (fun _ => rfl) (.int .i64 q)).drew
  have B28 := G8.at_ B27 (fun h => hwb h)
  have B58 := G8.at_ B57 (fun h => h5b h)
  clear G8
  generalize (w7.setCell ⟨b, 1, none⟩ (.int .i64 q)).drew = w8 at R8 F8 B28 B58 ⊢
  have c2 := R8.c2
  have z2 := R8.z 2
  have R9 := R8.setn (n - 1) (by omega)
  have F9 := F8.setCell (p := ⟨b, 2, none⟩) (fun _ => .inl rfl) (.int .i64 ((n - 1 : Nat) : Int))
  have B29 := set_far B28 (p := ⟨b, 2, none⟩) hwb (.int .i64 ((n - 1 : Nat) : Int))
  have B59 := set_far B58 (p := ⟨b, 2, none⟩) h5b (.int .i64 ((n - 1 : Nat) : Int))
  rw [HEC.out] at R9 F9 B29 B59
  clear g0 g1 z1 R7 F7 B27 B57
  generalize hw9 : w8.setCell ⟨b, 2, none⟩ (.int .i64 ((n : Int) - 1)) = w9 at R9 F9 B29 B59
  obtain ⟨l0, l1, l2⟩ := cells3 B59
  obtain ⟨m0, m1, m2⟩ := cells3 B29
  have zz0 := frozen_of B29 0
  have zz1 := frozen_of B29 1
  have zz2 := frozen_of B29 2
  go_wp2
  have G10 := (Fr.refl (fun k => k = w.heap.size) w9).put3 (b := w.heap.size) (fun _ => rfl) (.int .i64 y0) (.bool y1) (.int .i64 y2)
  have R10 := R9.fr G10 (by omega) (by omega)
  have F10 := F9.put3 (b := w.heap.size) (fun h => absurd h (Nat.lt_irrefl _)) (.int .i64 y0) (.bool y1) (.int .i64 y2)
  exact ret_ct rfl rfl rfl (put3y B29) Try.underlying56 rfl (by kernel_rfl) ⟨rfl, by rw [← HQ.out]; exact R10, F10⟩
set_option maxHeartbeats 1600000 in
theorem pop_no (h : Rw w b a c f n ys) (hn : n = 0) :
    Calls Try.prog 42 #[.pointer (some ⟨b, 0, none⟩)] w fun e w' => e = .returned (.tuple #[.agg #[.int .i64 0, .bool false, .int .i64 0], .bool false]) ∧ Fr (fun _ => False) w w' := by
  have h1 := (h.alloc (.cells #[.int .i64 0, .bool false, .int .i64 0] 56)).alloc (.cells #[.int .i64 0, .bool false, .int .i64 0] 56)
  have B2 := alloc_at (alloc_is (w := w) (n := w.heap.size) (.cells #[.int .i64 0, .bool false, .int .i64 0] 56) rfl) (.cells #[.int .i64 0, .bool false, .int .i64 0] 56)
  have B4 := alloc_is (w := w.alloc (.cells #[.int .i64 0, .bool false, .int .i64 0] 56)) (n := w.heap.size + 1) (.cells #[.int .i64 0, .bool false, .int .i64 0] 56) (by simp)
  have F1 := ((Fr.refl (fun _ => False) w).alloc (.cells #[.int .i64 0, .bool false, .int .i64 0] 56)).alloc (.cells #[.int .i64 0, .bool false, .int .i64 0] 56)
  generalize hw1 : (w.alloc (.cells #[.int .i64 0, .bool false, .int .i64 0] 56)).alloc (.cells #[.int .i64 0, .bool false, .int .i64 0] 56) = w1 at h1 B2 B4 F1
  obtain ⟨l0, l1, l2⟩ := cells3 B4
  obtain ⟨m0, m1, m2⟩ := cells3 B2
  have zz0 := frozen_of B2 0
  have zz1 := frozen_of B2 1
  have zz2 := frozen_of B2 2
  go_enter Try.func42, Try.ntmps42
  go_wp2_with fail
  refine (has0_no h1 hn).mono ?_
  rintro e w' ⟨rfl, rfl⟩
  go_wp2
  exact ret_ct rfl rfl rfl (put3y B2) Try.underlying56 rfl (by kernel_rfl) ⟨rfl, F1.put3 (b := w.heap.size) (fun h => absurd h (Nat.lt_irrefl _)) _ _ _⟩
set_option maxHeartbeats 1600000 in
theorem pop_nil (w : World) :
    Calls Try.prog 42 #[.pointer none] w fun e w' => e = .returned (.tuple #[.agg #[.int .i64 0, .bool false, .int .i64 0], .bool false]) ∧ Fr (fun _ => False) w w' := by
  have B2 := alloc_at (alloc_is (w := w) (n := w.heap.size) (.cells #[.int .i64 0, .bool false, .int .i64 0] 56) rfl) (.cells #[.int .i64 0, .bool false, .int .i64 0] 56)
  have B4 := alloc_is (w := w.alloc (.cells #[.int .i64 0, .bool false, .int .i64 0] 56)) (n := w.heap.size + 1) (.cells #[.int .i64 0, .bool false, .int .i64 0] 56) (by simp)
  have F1 := ((Fr.refl (fun _ => False) w).alloc (.cells #[.int .i64 0, .bool false, .int .i64 0] 56)).alloc (.cells #[.int .i64 0, .bool false, .int .i64 0] 56)
  generalize hw1 : (w.alloc (.cells #[.int .i64 0, .bool false, .int .i64 0] 56)).alloc (.cells #[.int .i64 0, .bool false, .int .i64 0] 56) = w1 at B2 B4 F1
  obtain ⟨l0, l1, l2⟩ := cells3 B4
  obtain ⟨m0, m1, m2⟩ := cells3 B2
  have zz0 := frozen_of B2 0
  have zz1 := frozen_of B2 1
  have zz2 := frozen_of B2 2
  go_enter Try.func42, Try.ntmps42
  go_wp2_with fail
  refine (has_nil w1 0).mono ?_
  rintro e w' ⟨rfl, rfl⟩
  go_wp2
  exact ret_ct rfl rfl rfl (put3y B2) Try.underlying56 rfl (by kernel_rfl) ⟨rfl, F1.put3 (b := w.heap.size) (fun h => absurd h (Nat.lt_irrefl _)) _ _ _⟩
set_option maxHeartbeats 1600000 in
theorem set_yes (h : Rw w b a c f n ys) (i : Nat) (x0 : Int) (x1 : Bool) (x2 : Int) (hi : i < n) :
    Calls Try.prog 40 #[.pointer (some ⟨b, 0, none⟩), .int .i64 i, .agg #[.int .i64 x0, .bool x1, .int .i64 x2]] w fun e w' => e = .returned (.bool true) ∧ Rw w' b a c f n (ys.set ((f + i) % c) (x0, x1, x2)) ∧ Fr (fun k => k = b ∨ k = a) w w' := by
  have hf : f < c := by have := h.fst; have := h.num; omega
  have hnc := h.num
  obtain ⟨q, hq⟩ : ∃ q, q = (f + i) % c := ⟨_, rfl⟩
  have hqc : q < c := by rw [hq]; exact Nat.mod_lt _ (by omega)
  rw [← hq]
  have HQ := Lib.hid hq.symm
  clear hq
  have h1 := h.alloc (.cells #[.int .i64 x0, .bool x1, .int .i64 x2] 56)
  have BX := alloc_is (w := w) (n := w.heap.size) (.cells #[.int .i64 x0, .bool x1, .int .i64 x2] 56) rfl
  have F1 := (Fr.refl (fun k => k = b ∨ k = a) w).alloc (.cells #[.int .i64 x0, .bool x1, .int .i64 x2] 56)
  generalize hw1 : w.alloc (.cells #[.int .i64 x0, .bool x1, .int .i64 x2] 56) = w1 at h1 BX F1
  obtain ⟨m0, m1, m2⟩ := Calm.cellsT BX
  have HP := Lib.hid (fun x : Calm w1 => place_fr (h1.fr x.fr (fun x => x) (fun x => x)) i q HQ.out hf (by omega))
  go_enter Try.func40, Try.ntmps40
  go_wp2_with fail
  refine (has_yes h1 i hi).mono ?_
  rintro e w' ⟨rfl, rfl⟩
  go_wp2_with fail
  (refine wp_region_calm_tail 5 (by kernel_rfl) (by kernel_rfl) ?_; simp only [List.take_succ_cons, List.take_zero, List.drop_succ_cons, List.drop_zero]; (repeat (go_big_quiet_step ((go_at_call 45; exact Calm.of (HP.out _))))); refine wpQuiet_nil ?_; intro _ hwq0; obtain ⟨nq, hwq1⟩ := hwq0; subst hwq1)
  have R3 := h1.fr nq.fr (fun x => x) (fun x => x)
  have F3 := F1.trans nq.fr (fun _ _ h => h.elim)
  generalize nq.to = w3 at R3 F3 ⊢
  clear m0 m1 m2
  obtain ⟨y, hy⟩ : ∃ y, ys.getD q E.z = y := ⟨_, rfl⟩
  obtain ⟨y0, y1, y2⟩ := y
  obtain ⟨l0, l1, l2⟩ := get1 R3 hqc hy
  have zz0 := R3.za (q * 3)
  have zz1 := R3.za (q * 3 + 1)
  have zz2 := R3.za (q * 3 + 2)
  clear hy
  go_wp2
  go_ret
  exact ⟨rfl, put1 R3 q x0 x1 x2 hqc, putF F3 (fun _ => .inr rfl) q x0 x1 x2⟩
set_option maxHeartbeats 800000 in
theorem set_no (h : Rw w b a c f n ys) (i : Int) (x0 : Int) (x1 : Bool) (x2 : Int) (hi : i < 0 ∨ (n : Int) ≤ i) :
    Calls Try.prog 40 #[.pointer (some ⟨b, 0, none⟩), .int .i64 i, .agg #[.int .i64 x0, .bool x1, .int .i64 x2]] w fun e w' => e = .returned (.bool false) ∧ Fr (fun _ => False) w w' := by
  have h1 := h.alloc (.cells #[.int .i64 x0, .bool x1, .int .i64 x2] 56)
  have F1 := (Fr.refl (fun _ => False) w).alloc (.cells #[.int .i64 x0, .bool x1, .int .i64 x2] 56)
  go_enter Try.func40, Try.ntmps40
  go_wp2_with fail
  refine (has_no h1 i hi).mono ?_
  rintro e w' ⟨rfl, rfl⟩
  go_wp2
  go_ret
  exact ⟨rfl, F1⟩
end
end RE

end Go.Proofs.Ytahddolplklopaa
