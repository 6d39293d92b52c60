/- Tr. -/
import Derived.Test.YtbmhgkajjjiniaaChecked
import Derived.WalkKit
import Derived.Laws.IdiomCopy
import Derived.Deep.QuietTactic
import Derived.BigQuiet
import Derived.Lib.Hide
import Derived.OpenShut
import Derived.StillTailTactics
import Derived.Deep.RegionWith
import Derived.Deep.RegionLaw
import Derived.Deep.Slices
import Derived.Deep.RegionHeld3
import Derived.OwnWalk
import Derived.Test.YtbmhgkajjjiniaaBase
import Derived.Test.YtbmhgkajjjiniaaCalm
import Derived.Test.YtbmhgkajjjiniaaCalmT
import Derived.Test.YtbmhgkajjjiniaaCel
import Derived.Test.YtbmhgkajjjiniaaApp
import Derived.Test.YtbmhgkajjjiniaaClk
import Derived.Test.YtbmhgkajjjiniaaRV
import Derived.Test.YtbmhgkajjjiniaaRVB
import Derived.Test.YtbmhgkajjjiniaaRVC
import Derived.Test.YtbmhgkajjjiniaaRVA
import Derived.Test.YtbmhgkajjjiniaaCeS
import Derived.Test.YtbmhgkajjjiniaaCeF
import Derived.Test.YtbmhgkajjjiniaaCeG
import Derived.Test.YtbmhgkajjjiniaaCeN
import Derived.Test.YtbmhgkajjjiniaaCeX
import Derived.Test.YtbmhgkajjjiniaaCel9
namespace Go.Proofs.Ytbmhgkajjjiniaa
open Go.RowKit
set_option linter.unusedVariables false
set_option linter.unusedSimpArgs false

/-! ### trend.Change -/
def chv (f : Int) (l : List (Int × Int)) : Int × Bool := if (od f l).2 = true then ((vl l).1 - (od f l).1, true) else (0, false)
def SmallV (l : List (Int × Int)) : Prop := ∀ y, y ∈ l → -1099511627776 ≤ y.1 ∧ y.1 ≤ 1099511627776
theorem od_mem {f : Int} {l : List (Int × Int)} (h : (od f l).2 = true) : ∃ t, ((od f l).1, t) ∈ l := by
  unfold od at h ⊢
  cases e : l.find? (fun x => decide (f ≤ x.2)) with
  | none => rw [e] at h; cases h
  | some x => exact ⟨x.2, by have := List.mem_of_find?_eq_some e; simpa using this⟩
theorem od_small {f : Int} {l : List (Int × Int)} (hb : SmallV l) : -1099511627776 ≤ (od f l).1 ∧ (od f l).1 ≤ 1099511627776 := by
  cases h : (od f l).2 with
  | true => obtain ⟨t, ht⟩ := od_mem h; exact hb _ ht
  | false =>
    unfold od at h ⊢
    cases e : l.find? (fun x => decide (f ≤ x.2)) with
    | none => simp
    | some x => rw [e] at h; cases h
theorem vl_small {l : List (Int × Int)} (hb : SmallV l) : -1099511627776 ≤ (vl l).1 ∧ (vl l).1 ≤ 1099511627776 := by
  unfold vl
  by_cases h : l.length = 0
  · rw [if_pos h]; simp
  · rw [if_neg h]
    exact hb (l.getD (l.length - 1) RV.E.z) (by rw [List.getD_eq_getElem?_getD, List.getElem?_eq_getElem (by omega)]; exact List.getElem_mem _)
section
variable {w : World} {s g : Nat} {sh : List (Nat × Nat)} {ds : List Kd}
set_option maxHeartbeats 1600000 in
theorem change_x (h : St w s g sh ds) {x : Int} {i : Nat} (hx : x = (i : Int)) (hi : i < sh.length) (now span : Int) (hn : BigI now) (hsp : BigI span) (hb : SmallV (ds.getD i dz).2.2) {r : Int × Bool} (hr : chv (sn now span) (ds.getD i dz).2.2 = r) :
    Calls Try.prog 25 #[.pointer (some ⟨s, 0, none⟩), .int .i64 x, .int .i64 now, .int .i64 span] w (OPost w r) := by
  subst hr
  have HO := Lib.hid (fun (f : Int) => oldest_x h hx hi f (r := od f (ds.getD i dz).2.2) rfl)
  have HV := Lib.hid (fun w' (hf : Fr (fun _ => False) w w') => value_x (h.calm hf) hx hi (r := vl (ds.getD i dz).2.2) rfl)
  have HS := Lib.hid (since_any w now span hn hsp)
  have h1 := od_small (f := sn now span) hb
  have h2 := vl_small hb
  clear hn hsp hb h
  have HC : Hid (chv (sn now span) (ds.getD i dz).2.2 = if (od (sn now span) (ds.getD i dz).2.2).2 = true then ((vl (ds.getD i dz).2.2).1 - (od (sn now span) (ds.getD i dz).2.2).1, true) else (0, false)) := Lib.hid rfl
  have HO2 := Lib.hid (HO.out (sn now span))
  generalize chv (sn now span) (ds.getD i dz).2.2 = c at HC ⊢
  generalize sn now span = f at HO2 HS HC h1
  generalize od f (ds.getD i dz).2.2 = o at HO2 HC h1
  generalize vl (ds.getD i dz).2.2 = v at HV HC h2
  obtain ⟨o0, o1⟩ := o
  obtain ⟨v0, v1, v2⟩ := v
  simp only at h1 h2
  clear HO hx hi
  go_enter Try.func25, Try.ntmps25
  go_wp2_with fail
  refine HS.out.mono ?_
  rintro e w' ⟨rfl, rfl⟩
  go_wp2_with fail
  refine HO2.out.mono ?_
  rintro e w1 ⟨rfl, F1⟩
  cases o1
  case false =>
    have HC2 : Hid (c = (0, false)) := Lib.hid (by rw [HC.out]; rfl)
    go_wp2
    go_ret2
    exact ⟨by rw [HC2.out]; rfl, F1⟩
  case true =>
    have HC2 : Hid (c = (v0 - o0, true)) := Lib.hid (by rw [HC.out]; rfl)
    go_wp2_with fail
    refine (HV.out w1 F1).mono ?_
    rintro e w2 ⟨rfl, F2⟩
    go_wp2
    go_ret2
    exact ⟨by rw [HC2.out]; rfl, F1.step F2 nop⟩
set_option maxHeartbeats 800000 in
theorem change_out (h : St w s g sh ds) {x : Int} (hx : x < 0 ∨ (sh.length : Int) ≤ x) (now span : Int) (hn : BigI now) (hsp : BigI span) :
    Calls Try.prog 25 #[.pointer (some ⟨s, 0, none⟩), .int .i64 x, .int .i64 now, .int .i64 span] w (OPost w (0, false)) := by
  have HS := Lib.hid (since_any w now span hn hsp)
  have HO := Lib.hid (oldest_out h hx (sn now span))
  clear hn hsp h hx
  generalize sn now span = f at HS HO
  go_enter Try.func25, Try.ntmps25
  go_wp2_with fail
  refine HS.out.mono ?_
  rintro e w' ⟨rfl, rfl⟩
  go_wp2_with fail
  refine HO.out.mono ?_
  rintro e w1 ⟨rfl, F1⟩
  go_wp2
  go_ret2
  exact ⟨rfl, F1⟩
set_option maxHeartbeats 800000 in
theorem change_nil (w : World) (x now span : Int) (hn : BigI now) (hsp : BigI span) :
    Calls Try.prog 25 #[.pointer none, .int .i64 x, .int .i64 now, .int .i64 span] w (OPost w (0, false)) := by
  have HS := Lib.hid (since_any w now span hn hsp)
  clear hn hsp
  generalize sn now span = f at HS
  go_enter Try.func25, Try.ntmps25
  go_wp2_with fail
  refine HS.out.mono ?_
  rintro e w' ⟨rfl, rfl⟩
  go_wp2_with fail
  refine (oldest_nil w x f).mono ?_
  rintro e w1 ⟨rfl, F1⟩
  go_wp2
  go_ret2
  exact ⟨rfl, F1⟩
end
/-! ### Cross -/
def crs (k lim bk d : Int) : Bool × Bool := if k = 3 then (decide (lim ≤ d), decide (d < bk)) else if k = 4 then (decide (lim ≤ -d), decide (-d < bk)) else (false, false)
def CPost (w : World) (r : Bool × Bool) (e : Ending) (w' : World) : Prop := e = .returned (.tuple #[.bool r.1, .bool r.2]) ∧ Fr (fun _ => False) w w'
set_option maxRecDepth 100000 in
set_option maxHeartbeats 1600000 in
theorem cross_any (w : World) (k sg_ lim bk dl sp pr_ : Int) (la : Bool) (A : Option Addr) (n c : Nat) (d : Int) (hd : -1099511627776 ≤ d ∧ d ≤ 1099511627776) :
    Calls Try.prog 26 #[.agg #[.int .u8 k, .int .i64 sg_, .int .i64 lim, .int .i64 bk, .int .i64 dl, .int .i64 sp, .int .u8 pr_, .bool la, .slice A n c], .int .i64 d] w (CPost w (crs k lim bk d)) := by
  have B := alloc_is (w := w) (n := w.heap.size) (.cells #[.int .u8 k, .int .i64 sg_, .int .i64 lim, .int .i64 bk, .int .i64 dl, .int .i64 sp, .int .u8 pr_, .bool la, .slice A n c] 27) rfl
  have F := (Fr.refl (fun _ => False) w).alloc (.cells #[.int .u8 k, .int .i64 sg_, .int .i64 lim, .int .i64 bk, .int .i64 dl, .int .i64 sp, .int .u8 pr_, .bool la, .slice A n c] 27)
  generalize hw1 : w.alloc (.cells #[.int .u8 k, .int .i64 sg_, .int .i64 lim, .int .i64 bk, .int .i64 dl, .int .i64 sp, .int .u8 pr_, .bool la, .slice A n c] 27) = w1 at B F
  obtain ⟨c0, c1, c2, c3, c4, c5, c6, c7, c8⟩ := cells9 B
  by_cases h3 : k = 3
  · have HC : Hid (crs k lim bk d = (decide (lim ≤ d), decide (d < bk))) := Lib.hid (by unfold crs; rw [if_pos h3])
    subst h3
    go_enter Try.func26, Try.ntmps26
    go_wp2_with fail
    go_quiet (fail)
    go_wp2
    go_ret2
    exact ⟨by rw [HC.out]; rfl, F.drewN _⟩
  · by_cases h4 : k = 4
    · have HC : Hid (crs k lim bk d = (decide (lim ≤ -d), decide (-d < bk))) := Lib.hid (by unfold crs; rw [if_neg h3, if_pos h4])
      subst h4
      clear h3
      have e1 : IntKind.i64.wrap (-d) = -d := IntWalk.i64_in _ (by omega)
      have e2 : -9223372036854775808 ≤ -d ∧ -d ≤ 9223372036854775807 := by omega
      go_enter Try.func26, Try.ntmps26
      go_wp2_with fail
      go_quiet (fail)
      go_wp2
      go_ret2
      exact ⟨by rw [HC.out]; rfl, F.drewN _⟩
    · have HC : Hid (crs k lim bk d = (false, false)) := Lib.hid (by unfold crs; rw [if_neg h3, if_neg h4])
      have e3 : (k == 3) = false := by simp [h3]
      have e4 : (k == 4) = false := by simp [h4]
      clear h3 h4
      go_enter Try.func26, Try.ntmps26
      go_wp2
      go_ret2
      exact ⟨by rw [HC.out]; rfl, F⟩
set_option maxRecDepth 100000 in
set_option maxHeartbeats 1600000 in
theorem rcross_any (w : World) (k sg_ lim bk dl sp pr_ : Int) (la : Bool) (A : Option Addr) (n c : Nat) (d : Int) (hd : -1099511627776 ≤ d ∧ d ≤ 1099511627776) :
    Calls Try.prog 32 #[.agg #[.int .u8 k, .int .i64 sg_, .int .i64 lim, .int .i64 bk, .int .i64 dl, .int .i64 sp, .int .u8 pr_, .bool la, .slice A n c], .int .i64 d] w (CPost w (crs k lim bk d)) := by
  have B := alloc_is (w := w) (n := w.heap.size) (.cells #[.int .u8 k, .int .i64 sg_, .int .i64 lim, .int .i64 bk, .int .i64 dl, .int .i64 sp, .int .u8 pr_, .bool la, .slice A n c] 27) rfl
  have F := (Fr.refl (fun _ => False) w).alloc (.cells #[.int .u8 k, .int .i64 sg_, .int .i64 lim, .int .i64 bk, .int .i64 dl, .int .i64 sp, .int .u8 pr_, .bool la, .slice A n c] 27)
  generalize hw1 : w.alloc (.cells #[.int .u8 k, .int .i64 sg_, .int .i64 lim, .int .i64 bk, .int .i64 dl, .int .i64 sp, .int .u8 pr_, .bool la, .slice A n c] 27) = w1 at B F
  obtain ⟨c0, c1, c2, c3, c4, c5, c6, c7, c8⟩ := cells9 B
  by_cases h3 : k = 3
  · have HC : Hid (crs k lim bk d = (decide (lim ≤ d), decide (d < bk))) := Lib.hid (by unfold crs; rw [if_pos h3])
    subst h3
    go_enter Try.func32, Try.ntmps32
    go_wp2_with fail
    go_quiet (fail)
    go_wp2
    go_ret2
    exact ⟨by rw [HC.out]; rfl, F.drewN _⟩
  · by_cases h4 : k = 4
    · have HC : Hid (crs k lim bk d = (decide (lim ≤ -d), decide (-d < bk))) := Lib.hid (by unfold crs; rw [if_neg h3, if_pos h4])
      subst h4
      clear h3
      have e1 : IntKind.i64.wrap (-d) = -d := IntWalk.i64_in _ (by omega)
      have e2 : -9223372036854775808 ≤ -d ∧ -d ≤ 9223372036854775807 := by omega
      go_enter Try.func32, Try.ntmps32
      go_wp2_with fail
      go_quiet (fail)
      go_wp2
      go_ret2
      exact ⟨by rw [HC.out]; rfl, F.drewN _⟩
    · have HC : Hid (crs k lim bk d = (false, false)) := Lib.hid (by unfold crs; rw [if_neg h3, if_neg h4])
      have e3 : (k == 3) = false := by simp [h3]
      have e4 : (k == 4) = false := by simp [h4]
      clear h3 h4
      go_enter Try.func32, Try.ntmps32
      go_wp2
      go_ret2
      exact ⟨by rw [HC.out]; rfl, F⟩

end Go.Proofs.Ytbmhgkajjjiniaa
