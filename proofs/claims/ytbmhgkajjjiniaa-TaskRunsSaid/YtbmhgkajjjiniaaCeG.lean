/- CeG. -/
import Derived.Test.YtbmhgkajjjiniaaChecked
import Derived.WalkKit
import Derived.Laws.IdiomCopy
import Derived.Deep.QuietTactic
import Derived.BigQuiet
import Derived.Lib.Hide
import Derived.OpenShut
import Derived.StillTailTactics
import Derived.Deep.RegionWith
import Derived.Deep.RegionLaw
import Derived.Deep.Slices
import Derived.Deep.RegionHeld3
import Derived.OwnWalk
import Derived.Test.YtbmhgkajjjiniaaBase
import Derived.Test.YtbmhgkajjjiniaaCalm
import Derived.Test.YtbmhgkajjjiniaaCalmT
import Derived.Test.YtbmhgkajjjiniaaCel
import Derived.Test.YtbmhgkajjjiniaaApp
import Derived.Test.YtbmhgkajjjiniaaClk
import Derived.Test.YtbmhgkajjjiniaaRV
import Derived.Test.YtbmhgkajjjiniaaRVB
import Derived.Test.YtbmhgkajjjiniaaRVC
import Derived.Test.YtbmhgkajjjiniaaRVA
import Derived.Test.YtbmhgkajjjiniaaCeS
import Derived.Test.YtbmhgkajjjiniaaCeF
namespace Go.Proofs.Ytbmhgkajjjiniaa
open Go.RowKit
set_option linter.unusedVariables false
set_option linter.unusedSimpArgs false

/-! ### What is asked of a store -/
/-- The last value. -/
def vl (l : List (Int × Int)) : Int × Int × Bool := if l.length = 0 then (0, 0, false) else ((l.getD (l.length - 1) RV.E.z).1, (l.getD (l.length - 1) RV.E.z).2, true)
/-- The first value since a time. -/
def od (f : Int) (l : List (Int × Int)) : Int × Bool := match l.find? (fun x => decide (f ≤ x.2)) with | some x => (x.1, true) | none => (0, false)
def VPost (w : World) (r : Int × Int × Bool) (e : Ending) (w' : World) : Prop := e = .returned (.tuple #[.int .i64 r.1, .int .i64 r.2.1, .bool r.2.2]) ∧ Fr (fun _ => False) w w'
def OPost (w : World) (r : Int × Bool) (e : Ending) (w' : World) : Prop := e = .returned (.tuple #[.int .i64 r.1, .bool r.2]) ∧ Fr (fun _ => False) w w'
section
variable {w : World} {s g : Nat} {sh : List (Nat × Nat)} {ds : List Kd}
set_option maxHeartbeats 800000 in
theorem bad_in (h : St w s g sh ds) {i : Nat} (hi : i < sh.length) :
    Calls Try.prog 23 #[.pointer (some ⟨s, 0, none⟩), .int .i64 i] w fun e w' => e = .returned (.bool (ds.getD i dz).2.1) ∧ Fr (fun _ => False) w w' := by
  obtain ⟨-, -, k2⟩ := h.cells hi rfl
  generalize (ds.getD i dz).2.1 = b at k2 ⊢
  go_enter Try.func23, Try.ntmps23
  go_wp2_with fail
  refine (of_in h hi).mono ?_
  rintro e w' ⟨rfl, rfl⟩
  go_wp2
  go_ret
  exact ⟨rfl, Fr.refl _ _⟩
set_option maxHeartbeats 800000 in
theorem bad_out (h : St w s g sh ds) {x : Int} (hx : x < 0 ∨ (sh.length : Int) ≤ x) : Calls Try.prog 23 #[.pointer (some ⟨s, 0, none⟩), .int .i64 x] w fun e w' => e = .returned (.bool false) ∧ Fr (fun _ => False) w w' := by
  have HO := Lib.hid (of_out h hx)
  go_enter Try.func23, Try.ntmps23
  go_wp2_with fail
  refine HO.out.mono ?_
  rintro e w' ⟨rfl, rfl⟩
  go_wp2
  go_ret
  exact ⟨rfl, Fr.refl _ _⟩
set_option maxHeartbeats 800000 in
theorem bad_nil (w : World) (x : Int) : Calls Try.prog 23 #[.pointer none, .int .i64 x] w fun e w' => e = .returned (.bool false) ∧ Fr (fun _ => False) w w' := by
  go_enter Try.func23, Try.ntmps23
  go_wp2_with fail
  refine (of_nil w x).mono ?_
  rintro e w' ⟨rfl, rfl⟩
  go_wp2
  go_ret
  exact ⟨rfl, Fr.refl _ _⟩
set_option maxHeartbeats 800000 in
theorem quiet_in (h : St w s g sh ds) {i : Nat} (hi : i < sh.length) (now : Int) (hn : BigI now) (hs : BigI (ds.getD i dz).1) :
    Calls Try.prog 27 #[.pointer (some ⟨s, 0, none⟩), .int .i64 i, .int .i64 now] w fun e w' => e = .returned (.int .i64 (sn now (ds.getD i dz).1)) ∧ Fr (fun _ => False) w w' := by
  obtain ⟨-, k1, -⟩ := h.cells hi rfl
  have HS := Lib.hid (since_any w now (ds.getD i dz).1 hn hs)
  clear hn hs
  generalize (ds.getD i dz).1 = t at k1 HS ⊢
  go_enter Try.func27, Try.ntmps27
  go_wp2_with fail
  refine (of_in h hi).mono ?_
  rintro e w' ⟨rfl, rfl⟩
  go_wp2_with fail
  refine HS.out.mono ?_
  rintro e w' ⟨rfl, rfl⟩
  go_wp2
  go_ret
  exact ⟨rfl, Fr.refl _ _⟩
set_option maxHeartbeats 800000 in
theorem quiet_out (h : St w s g sh ds) {x : Int} (hx : x < 0 ∨ (sh.length : Int) ≤ x) (now : Int) (hn : BigI now) : Calls Try.prog 27 #[.pointer (some ⟨s, 0, none⟩), .int .i64 x, .int .i64 now] w fun e w' => e = .returned (.int .i64 (sn now 0)) ∧ Fr (fun _ => False) w w' := by
  have HO := Lib.hid (of_out h hx)
  have HS := Lib.hid (since_any w now 0 hn (by unfold BigI; omega))
  clear hn
  go_enter Try.func27, Try.ntmps27
  go_wp2_with fail
  refine HO.out.mono ?_
  rintro e w' ⟨rfl, rfl⟩
  go_wp2_with fail
  refine HS.out.mono ?_
  rintro e w' ⟨rfl, rfl⟩
  go_wp2
  go_ret
  exact ⟨rfl, Fr.refl _ _⟩
set_option maxHeartbeats 800000 in
theorem quiet_nil (w : World) (x now : Int) (hn : BigI now) : Calls Try.prog 27 #[.pointer none, .int .i64 x, .int .i64 now] w fun e w' => e = .returned (.int .i64 (sn now 0)) ∧ Fr (fun _ => False) w w' := by
  have HS := Lib.hid (since_any w now 0 hn (by unfold BigI; omega))
  clear hn
  go_enter Try.func27, Try.ntmps27
  go_wp2_with fail
  refine (of_nil w x).mono ?_
  rintro e w' ⟨rfl, rfl⟩
  go_wp2_with fail
  refine HS.out.mono ?_
  rintro e w' ⟨rfl, rfl⟩
  go_wp2
  go_ret
  exact ⟨rfl, Fr.refl _ _⟩
set_option maxHeartbeats 800000 in
theorem value_out (h : St w s g sh ds) {x : Int} (hx : x < 0 ∨ (sh.length : Int) ≤ x) : Calls Try.prog 22 #[.pointer (some ⟨s, 0, none⟩), .int .i64 x] w (VPost w (0, 0, false)) := by
  have HO := Lib.hid (of_out h hx)
  go_enter Try.func22, Try.ntmps22
  go_wp2_with fail
  refine HO.out.mono ?_
  rintro e w' ⟨rfl, rfl⟩
  go_wp2
  go_ret3
  exact ⟨rfl, Fr.refl _ _⟩
set_option maxHeartbeats 800000 in
theorem value_nil (w : World) (x : Int) : Calls Try.prog 22 #[.pointer none, .int .i64 x] w (VPost w (0, 0, false)) := by
  go_enter Try.func22, Try.ntmps22
  go_wp2_with fail
  refine (of_nil w x).mono ?_
  rintro e w' ⟨rfl, rfl⟩
  go_wp2
  go_ret3
  exact ⟨rfl, Fr.refl _ _⟩
set_option maxRecDepth 100000 in
set_option maxHeartbeats 1600000 in
theorem value_in (h : St w s g sh ds) {i : Nat} (hi : i < sh.length) : Calls Try.prog 22 #[.pointer (some ⟨s, 0, none⟩), .int .i64 i] w (VPost w (vl (ds.getD i dz).2.2)) := by
  have HK : Hid (∀ w', Fr (fun _ => False) w w' → w'.cell? ⟨g, i * 3, none⟩ = some (.pointer (some ⟨(sg sh i).1, 0, none⟩))) := Lib.hid (fun w' hf => ((h.calm hf).cells hi rfl).1)
  have HR := Lib.hid (fun w' (hf : Fr (fun _ => False) w w') => (h.calm hf).ring i hi)
  have hF0 : Fr (fun _ => False) w w.drew := (Fr.refl _ _).drew
  generalize (ds.getD i dz).2.2 = l at HR ⊢
  have HL : Hid (∀ w', Fr (fun _ => False) w w' → Calls Try.prog 40 #[.pointer (some ⟨(sg sh i).1, 0, none⟩)] w' fun e w'' => e = .returned (.int .i64 l.length) ∧ Fr (fun _ => False) w' w'' ∧ Fr (fun _ => False) w w'') := Lib.hid (fun w' hf => (RV.Len (HR.out w' hf)).mono fun e w'' ⟨h1, h2⟩ => ⟨h1, by subst h2; exact Fr.refl _ _, by subst h2; exact hf⟩)
  have hle := (HR.out w (Fr.refl _ _)).le
  have HA : Hid (∀ w', Fr (fun _ => False) w w' → Calls Try.prog 39 #[.pointer (some ⟨(sg sh i).1, 0, none⟩), .int .i64 ((l.length : Int) - 1)] w' fun e w'' => e = .returned (.tuple #[.agg #[.int .i64 (vl l).1, .int .i64 (vl l).2.1], .bool (vl l).2.2]) ∧ Fr (fun _ => False) w' w'' ∧ Fr (fun _ => False) w w'') := Lib.hid (fun w' hf => by
    unfold vl
    by_cases h0 : l.length = 0
    · rw [if_pos h0]
      exact (RV.At_no (HR.out w' hf) _ (by omega)).mono fun e w'' ⟨h1, h2⟩ => ⟨h1, h2, hf.step h2 nop⟩
    · rw [if_neg h0]
      have := RV.At_yes (HR.out w' hf) (l.length - 1) (by omega) (y0 := (l.getD (l.length - 1) RV.E.z).1) (y1 := (l.getD (l.length - 1) RV.E.z).2) rfl
      rw [show ((l.length - 1 : Nat) : Int) = (l.length : Int) - 1 from by omega] at this
      exact this.mono fun e w'' ⟨h1, h2⟩ => ⟨h1, h2, hf.step h2 nop⟩)
  generalize vl l = r at HA ⊢
  obtain ⟨r0, r1, r2⟩ := r
  have g1 : IntKind.i64.wrap ((l.length : Int) - 1) = (l.length : Int) - 1 := IntWalk.i64_in _ (by omega)
  go_enter Try.func22, Try.ntmps22
  go_wp2_with fail
  refine (of_in h hi).mono ?_
  rintro e w' ⟨rfl, rfl⟩
  go_wp2_with fail
  go_region_held3 (fun w' => w'.cell? ⟨g, i * 3, none⟩ = some (.pointer (some ⟨(sg sh i).1, 0, none⟩)))
    (first | exact HK.out _ (by assumption) | exact HK.out _ (Fr.alloc (by assumption) _) | exact HK.out _ (F8.put2 (fun h => absurd h (by have := F7.size; omega)) _ _))
    (first
      | (go_at_call 40; first | (refine (HL.out _ (by assumption)).mono ?_; rintro e wA ⟨rfl, F7l, F7⟩) | (refine (HL.out _ (Fr.alloc (by assumption) _)).mono ?_; rintro e wA ⟨rfl, F7l, F7⟩; have B7 := F7l.at_ (b := w.heap.size) (alloc_is (w := w) (n := w.heap.size) (.cells #[.int .i64 0, .int .i64 0] 64) rfl) (fun x => x); have q7 := cells2 B7; have q70 := frozen_of B7 0; have q71 := frozen_of B7 1))
      | (go_at_call 39; first | (refine (HA.out _ (by assumption)).mono ?_; rintro e wB ⟨rfl, F8l, F8⟩; try (have B8 := F8l.at_ B7 (fun x => x); have q8 := cells2 B8; have q80 := frozen_of B8 0; have q81 := frozen_of B8 1)) | (refine (HA.out _ (Fr.alloc (by assumption) _)).mono ?_; rintro e wB ⟨rfl, F8l, F8⟩; have B8 := F8l.at_ (alloc_new _ (.cells #[.int .i64 0, .int .i64 0] 64)) (fun x => x); have q8 := cells2 B8; have q80 := frozen_of B8 0; have q81 := frozen_of B8 1)))
  · have B9 := alloc_is (w := wB) (n := wB.heap.size) (.cells #[.int .i64 r0, .int .i64 r1] 64) rfl
    have F9 := F8.alloc (.cells #[.int .i64 r0, .int .i64 r1] 64)
    generalize wB.alloc (.cells #[.int .i64 r0, .int .i64 r1] 64) = w9 at B9 F9 ⊢
    clear g1 hF0
    obtain ⟨o0, o1⟩ := cells2 B9
    go_wp2_with fail
    go_quiet (fail)
    go_wp2
    go_ret3
    exact ⟨rfl, F9.drewN _⟩
  · have B9 := put2y (y0 := .int .i64 r0) (y1 := .int .i64 r1) B8
    have F9 := F8.put2 (b := wA.heap.size) (fun h => absurd h (by have := F7.size; omega)) (.int .i64 r0) (.int .i64 r1)
    generalize (wB.setCell ⟨wA.heap.size, 0, none⟩ (.int .i64 r0)).setCell ⟨wA.heap.size, 1, none⟩ (.int .i64 r1) = w9 at B9 F9 ⊢
    clear q8 q80 q81
    clear g1 hF0
    obtain ⟨o0, o1⟩ := cells2 B9
    go_wp2_with fail
    go_quiet (fail)
    go_wp2
    go_ret3
    exact ⟨rfl, F9.drewN _⟩
  · have B9 := put2y (y0 := .int .i64 r0) (y1 := .int .i64 r1) B8
    have F9 := F8.put2 (b := w.heap.size) (fun h => absurd h (by have := F7.size; omega)) (.int .i64 r0) (.int .i64 r1)
    generalize (wB.setCell ⟨w.heap.size, 0, none⟩ (.int .i64 r0)).setCell ⟨w.heap.size, 1, none⟩ (.int .i64 r1) = w9 at B9 F9 ⊢
    clear q8 q80 q81
    clear g1 hF0
    obtain ⟨o0, o1⟩ := cells2 B9
    go_wp2_with fail
    go_quiet (fail)
    go_wp2
    go_ret3
    exact ⟨rfl, F9.drewN _⟩
set_option maxHeartbeats 800000 in
theorem oldest_out (h : St w s g sh ds) {x : Int} (hx : x < 0 ∨ (sh.length : Int) ≤ x) (f : Int) : Calls Try.prog 41 #[.pointer (some ⟨s, 0, none⟩), .int .i64 x, .int .i64 f] w (OPost w (0, false)) := by
  have HO := Lib.hid (of_out h hx)
  go_enter Try.func41, Try.ntmps41
  go_wp2_with fail
  refine HO.out.mono ?_
  rintro e w' ⟨rfl, rfl⟩
  go_wp2
  go_ret2
  exact ⟨rfl, Fr.refl _ _⟩
set_option maxHeartbeats 800000 in
theorem oldest_nil (w : World) (x f : Int) : Calls Try.prog 41 #[.pointer none, .int .i64 x, .int .i64 f] w (OPost w (0, false)) := by
  go_enter Try.func41, Try.ntmps41
  go_wp2_with fail
  refine (of_nil w x).mono ?_
  rintro e w' ⟨rfl, rfl⟩
  go_wp2
  go_ret2
  exact ⟨rfl, Fr.refl _ _⟩
theorem Reads.val {w : World} {b o n : Nat} {xs : List (Int × Int)} (h : Reads RV.E w (some ⟨b, o, none⟩) n xs) {k : Nat} (hk : k < n) {y0 y1} (hy : xs.getD k RV.E.z = (y0, y1)) :
    w.cell? ⟨b, o + k * 2, none⟩ = some (.int .i64 y0) ∧ w.cell? ⟨b, o + k * 2 + 1, none⟩ = some (.int .i64 y1) := by
  refine ⟨?_, ?_⟩
  · have := h.cellj (j := 0) hk (by decide); rw [hy] at this; exact this
  · have := h.cellj (j := 1) hk (by decide); rw [hy] at this; exact this
def OlRel (w : World) (f : Int) (l : List (Int × Int)) (A : Option Addr) (i : Value) (wr : World) : Prop :=
  ∃ j : Nat, i = .int .i64 j ∧ j ≤ l.length ∧ (∀ k, k < j → (l.getD k RV.E.z).2 < f) ∧ Reads RV.E wr A l.length l ∧ Fr (fun _ => False) w wr
theorem od_at {f : Int} {l : List (Int × Int)} {j : Nat} (hj : j < l.length) (h1 : ∀ k, k < j → (l.getD k RV.E.z).2 < f) (h2 : f ≤ (l.getD j RV.E.z).2) : od f l = ((l.getD j RV.E.z).1, true) := by
  have : l.find? (fun x => decide (f ≤ x.2)) = some (l.getD j RV.E.z) := by
    have e : l.getD j RV.E.z = l[j] := by simp [List.getD_eq_getElem?_getD, hj]
    rw [e] at h2 ⊢
    refine List.find?_eq_some_iff_getElem.2 ⟨by simpa using h2, j, hj, rfl, fun k hk => ?_⟩
    have := h1 k hk
    rw [List.getD_eq_getElem?_getD, List.getElem?_eq_getElem (by omega)] at this
    simp at this ⊢; omega
  unfold od; rw [this]
theorem od_none {f : Int} {l : List (Int × Int)} (h1 : ∀ k, k < l.length → (l.getD k RV.E.z).2 < f) : od f l = (0, false) := by
  have : l.find? (fun x => decide (f ≤ x.2)) = none := by
    rw [List.find?_eq_none]
    intro x hx
    obtain ⟨k, hk, rfl⟩ := List.getElem_of_mem hx
    have := h1 k hk
    rw [List.getD_eq_getElem?_getD, List.getElem?_eq_getElem hk] at this
    simp at this ⊢; omega
  unfold od; rw [this]
set_option maxRecDepth 100000 in
set_option maxHeartbeats 1600000 in
theorem oldest_in (h : St w s g sh ds) {i : Nat} (hi : i < sh.length) (f : Int) : Calls Try.prog 41 #[.pointer (some ⟨s, 0, none⟩), .int .i64 i, .int .i64 f] w (OPost w (od f (ds.getD i dz).2.2)) := by
  obtain ⟨k0, -, -⟩ := h.cells hi rfl
  have hr := h.ring i hi
  generalize (ds.getD i dz).2.2 = l at hr ⊢
  have hle := hr.le
  go_enter Try.func41, Try.ntmps41
  go_wp2_with fail
  refine (of_in h hi).mono ?_
  rintro e w' ⟨rfl, rfl⟩
  go_wp2_with fail
  refine (RV.All hr).mono ?_
  rintro e w1 ⟨v, rfl, O, F⟩
  obtain ⟨A, c, rfl, r1, _⟩ := O.reads
  clear O k0 hr
  go_wp2_with fail
  go_loopw [22] (fun i wr => OlRel w f l A i wr) (fun i _ => l.length - (intOf i).toNat)
  case atStart => exact ⟨0, rfl, Nat.zero_le _, fun k hk => by omega, r1, F⟩
  case round =>
    clear r1 F
    obtain ⟨j, rfl, hj, hall, rj, Fj⟩ := hrel
    have HALL := Lib.hid hall
    clear hall
    by_cases hlt : j < l.length
    · obtain ⟨b, o, rfl, _⟩ := rj.plain (by omega)
      obtain ⟨y, hy⟩ : ∃ y, l.getD j RV.E.z = y := ⟨_, rfl⟩
      obtain ⟨y0, y1⟩ := y
      obtain ⟨l0, l1⟩ := rj.val hlt hy
      have HY := Lib.hid hy
      have hlt' : (j : Int) < (l.length : Int) := by omega
      clear hy
      have Bz3 : (wr.alloc (.cells #[.int .i64 0, .int .i64 0] 64)).heap[wr.heap.size]? = some (.cells #[.int .i64 0, .int .i64 0] 64 (0, 0)) := alloc_is _ rfl
      have Fz3 := (Fr.refl (fun _ => False) wr).alloc (.cells #[.int .i64 0, .int .i64 0] 64)
      generalize hwm3 : wr.alloc (.cells #[.int .i64 0, .int .i64 0] 64) = wm3 at Bz3 Fz3
      obtain ⟨c3_0, c3_1⟩ := cells2 Bz3
      have z3_0 := frozen_of Bz3 0
      have z3_1 := frozen_of Bz3 1
      have B3 := put2y (y0 := .int .i64 y0) (y1 := .int .i64 y1) Bz3
      have Fo3 := (Fr.refl (fun i => i = wr.heap.size) wm3).put2 (b := wr.heap.size) (fun _ => rfl) (.int .i64 y0) (.int .i64 y1)
      generalize hwo3 : ((wm3.setCell ⟨wr.heap.size, 0, none⟩ (.int .i64 y0)).setCell ⟨wr.heap.size, 1, none⟩ (.int .i64 y1)) = wo3 at B3 Fo3
      have FF3 := Fz3.trans Fo3 (fun i hi (h : i = wr.heap.size) => by omega)
      obtain ⟨d3_0, d3_1⟩ := cells2 B3
      have rj2 := rj.fr FF3 (fun _ _ x => x)
      have HF2 := Lib.hid (Fj.step FF3 nop)
      by_cases hf : f ≤ y1
      · have HO := Lib.hid (od_at hlt HALL.out (by rw [HY.out]; exact hf))
        have HO2 : Hid (od f l = (y0, true)) := Lib.hid (by rw [HO.out, HY.out])
        clear rj rj2 Fj FF3
        go_wp2
        go_ret2
        exact ⟨by rw [HO2.out]; rfl, HF2.out⟩
      · have hf2 : ¬ f ≤ y1 := hf
        have HN : Hid (∀ k, k < j + 1 → (l.getD k RV.E.z).2 < f) := Lib.hid (fun k hk => by
          by_cases e : k = j
          · subst e; rw [HY.out]; simp only; omega
          · exact HALL.out k (by omega))
        clear rj Fj FF3
        go_wp2
        go_roundw
        case rel => exact ⟨j + 1, by go_num, by omega, HN.out, rj2, HF2.out⟩
        case measure => simp [intOf]; omega
    · have h3 : ¬ (j : Int) < (l.length : Int) := by omega
      have HO := Lib.hid (od_none (f := f) (l := l) (fun k hk => HALL.out k (by omega)))
      have HF := Lib.hid Fj
      clear hlt
      go_wp2
      go_ret2
      exact ⟨by rw [HO.out]; rfl, HF.out⟩
end

end Go.Proofs.Ytbmhgkajjjiniaa
