/- CeF. -/
import Derived.Test.YtbmhgkajjjiniaaChecked
import Derived.WalkKit
import Derived.Laws.IdiomCopy
import Derived.Deep.QuietTactic
import Derived.BigQuiet
import Derived.Lib.Hide
import Derived.OpenShut
import Derived.StillTailTactics
import Derived.Deep.RegionWith
import Derived.Deep.RegionLaw
import Derived.Deep.Slices
import Derived.Deep.RegionHeld3
import Derived.OwnWalk
import Derived.Test.YtbmhgkajjjiniaaBase
import Derived.Test.YtbmhgkajjjiniaaCalm
import Derived.Test.YtbmhgkajjjiniaaCalmT
import Derived.Test.YtbmhgkajjjiniaaCel
import Derived.Test.YtbmhgkajjjiniaaApp
import Derived.Test.YtbmhgkajjjiniaaClk
import Derived.Test.YtbmhgkajjjiniaaRV
import Derived.Test.YtbmhgkajjjiniaaRVB
import Derived.Test.YtbmhgkajjjiniaaRVC
import Derived.Test.YtbmhgkajjjiniaaRVA
import Derived.Test.YtbmhgkajjjiniaaCeS
namespace Go.Proofs.Ytbmhgkajjjiniaa
open Go.RowKit
set_option linter.unusedVariables false
set_option linter.unusedSimpArgs false

/-! ### cell.Store's functions -/
section
variable {w : World} {s g : Nat} {sh : List (Nat × Nat)} {ds : List Kd}
set_option maxHeartbeats 800000 in
theorem of_in (h : St w s g sh ds) {i : Nat} (hi : i < sh.length) :
    Calls Try.prog 20 #[.pointer (some ⟨s, 0, none⟩), .int .i64 i] w fun e w' => e = .returned (.pointer (some ⟨g, i * 3, none⟩)) ∧ w = w' := by
  have h0 := h.s0
  have h1 : (i : Int) < (sh.length : Int) := by omega
  have h2 := h.n8
  generalize sh.length = N at h0 h1 h2 hi
  clear h
  go_enter Try.func20, Try.ntmps20
  go_wp2
  go_ret
  exact ⟨rfl, rfl⟩
set_option maxHeartbeats 800000 in
theorem of_out (h : St w s g sh ds) {x : Int} (hx : x < 0 ∨ (sh.length : Int) ≤ x) :
    Calls Try.prog 20 #[.pointer (some ⟨s, 0, none⟩), .int .i64 x] w fun e w' => e = .returned (.pointer none) ∧ w = w' := by
  have h0 := h.s0
  by_cases h1 : x < 0
  · clear hx
    go_enter Try.func20, Try.ntmps20
    go_wp2
    go_ret
    exact ⟨rfl, rfl⟩
  · have h2 : (sh.length : Int) ≤ x := by omega
    clear hx
    generalize sh.length = N at h0 h2
    clear h
    go_enter Try.func20, Try.ntmps20
    go_wp2
    go_ret
    exact ⟨rfl, rfl⟩
set_option maxHeartbeats 800000 in
theorem of_nil (w : World) (x : Int) : Calls Try.prog 20 #[.pointer none, .int .i64 x] w fun e w' => e = .returned (.pointer none) ∧ w = w' := by
  go_enter Try.func20, Try.ntmps20
  go_wp2
  go_ret
  exact ⟨rfl, rfl⟩
theorem keep_last {w : World} {b a : Nat} {l : List (Int × Int)} (h : RV.Rg w b a 16 l) : RV.last 16 l = l := by
  unfold RV.last; rw [show l.length - 16 = 0 from by have := h.le; omega, List.drop_zero]
/-- What is known behind a sample. -/
def pt (d : Kd) (now v : Int) (bad : Bool) : Kd := (now, bad, if bad = true then d.2.2 else RV.last 16 (d.2.2 ++ [(v, now)]))
set_option maxRecDepth 100000 in
set_option maxHeartbeats 3200000 in
theorem put_in (h : St w s g sh ds) {i : Nat} (hi : i < sh.length) (now q v : Int) (bad : Bool) :
    Calls Try.prog 12 #[.pointer (some ⟨s, 0, none⟩), .int .i64 now, .agg #[.int .i64 i, .int .u8 q, .int .i64 v, .bool bad]] w
      fun e w' => e = .returned (.bool true) ∧ St w' s g sh (ds.set i (pt (ds.getD i dz) now v bad)) ∧ Fr (inSt s g sh) w w' := by
  have h1 := h.calm ((Fr.refl (fun _ => False) w).alloc (.cells #[.int .i64 i, .int .u8 q, .int .i64 v, .bool bad] 39))
  have B := alloc_is (w := w) (n := w.heap.size) (.cells #[.int .i64 i, .int .u8 q, .int .i64 v, .bool bad] 39) rfl
  have F := (Fr.refl (inSt s g sh) w).alloc (.cells #[.int .i64 i, .int .u8 q, .int .i64 v, .bool bad] 39)
  have hlt := lt_of h.gb
  have hxb : ∀ k, inSt s g sh k → k ≠ w.heap.size := fun k hk => by
    rcases hk with rfl | rfl | ⟨j, hj, rfl | rfl⟩
    · have := lt_of h.sb; omega
    · omega
    · have := (h.ring j hj).lb; omega
    · have := (h.ring j hj).la; omega
  have HXB := Lib.hid hxb
  have hgx : w.heap.size ≠ g := by omega
  generalize hw1 : w.alloc (.cells #[.int .i64 i, .int .u8 q, .int .i64 v, .bool bad] 39) = w1 at h1 B F
  clear hxb h
  obtain ⟨d, hd⟩ : ∃ d, ds.getD i dz = d := ⟨_, rfl⟩
  rw [hd]
  obtain ⟨k0, k1, k2⟩ := h1.cells hi hd
  have z1 := h1.zg (i * 3 + 1)
  have z2 := h1.zg (i * 3 + 2)
  obtain ⟨b0, b1, b2, b3⟩ := cells4 B
  have h2 := h1.seen hi hd now bad
  have F2 := (F.setCell (p := ⟨g, i * 3 + 1, none⟩) (fun _ => .inr (.inl rfl)) (.int .i64 now)).setCell (p := ⟨g, i * 3 + 2, none⟩) (fun _ => .inr (.inl rfl)) (.bool bad)
  have B2 := set_far (set_far B (p := ⟨g, i * 3 + 1, none⟩) hgx (.int .i64 now)) (p := ⟨g, i * 3 + 2, none⟩) hgx (.bool bad)
  have HH2 := Lib.hid h2
  have HF2 := Lib.hid F2
  have HB2 := Lib.hid B2
  have HD := Lib.hid hd
  clear h2 F2 B2 hd F
  go_enter Try.func12, Try.ntmps12
  go_wp2_with fail
  refine (of_in h1 hi).mono ?_
  rintro e w' ⟨rfl, rfl⟩
  go_wp2_with fail
  go_region
  have HH3 := Lib.hid (HH2.out.calm ((Fr.refl (fun _ => False) _).drew))
  have HF3 := Lib.hid HF2.out.drew
  have B3 : ((w1.setCell ⟨g, i * 3 + 1, none⟩ (.int .i64 now)).setCell ⟨g, i * 3 + 2, none⟩ (.bool bad)).drew.heap[w.heap.size]? = _ := HB2.out
  clear k0 k1 k2 z1 z2 b0 b1 b2 b3 h1 B HH2 HF2 HB2
  generalize ((w1.setCell ⟨g, i * 3 + 1, none⟩ (.int .i64 now)).setCell ⟨g, i * 3 + 2, none⟩ (.bool bad)).drew = w3 at HH3 HF3 B3 ⊢
  obtain ⟨b0, b1, b2, b3⟩ := cells4 B3
  have hil : i < ds.length := by have := HH3.out.len; rw [List.length_set] at this; omega
  have hd3 : (ds.set i (now, bad, d.2.2)).getD i dz = (now, bad, d.2.2) := getD_set_same _ _ _ _ hil
  have HSS : Hid (∀ x : Kd, (ds.set i (now, bad, d.2.2)).set i x = ds.set i x) := Lib.hid (fun x => by rw [List.set_set])
  cases bad
  case true =>
    go_wp2
    go_ret
    exact ⟨rfl, HH3.out, HF3.out⟩
  case false =>
    obtain ⟨n0, n1, n2, n3⟩ := Calm.cells4 B3
    have m0 : ∀ x : Calm w3, x.to.cell? ⟨g, i * 3, none⟩ = some (.pointer (some ⟨(sg sh i).1, 0, none⟩)) := fun x => ((HH3.out.calm x.fr).cells hi hd3).1
    have HD3 := Lib.hid hd3
    clear hd3
    go_wp2_with fail
    (refine wp_region_calm_tail 8 (by kernel_rfl) (by kernel_rfl) ?_; simp only [List.take_succ_cons, List.take_zero, List.drop_succ_cons, List.drop_zero]; (repeat (go_big_quiet_step (fail))); refine wpQuiet_nil ?_; intro _ hwq0; obtain ⟨nq, hwq1⟩ := hwq0; subst hwq1)
    have F4 := nq.fr
    generalize nq.to = w4 at F4 ⊢
    clear n0 n1 n2 n3 m0 b0 b1 b2 b3
    have h4 := HH3.out.calm F4
    have hr4 := h4.ring i hi
    rw [HD3.out] at hr4
    go_wp2_with fail
    refine (RV.Force_last (l := d.2.2) (by rw [keep_last hr4]; exact hr4) v now).mono ?_
    rintro e w5 ⟨⟨x, rfl⟩, R5, F5⟩
    have h5 := h4.vals hi HD3.out R5 F5
    rw [HSS.out] at h5
    have HH5 := Lib.hid h5
    have HF5 := Lib.hid ((HF3.out.trans F4 (fun _ _ x => x.elim)).trans F5 (fun k hk hh => by
      rcases hh with rfl | rfl
      · exact inSt.b hi
      · exact inSt.a hi))
    clear h5 h4 hr4 R5 F4 F5
    go_wp2
    go_ret
    exact ⟨rfl, HH5.out, HF5.out⟩
set_option maxHeartbeats 800000 in
theorem put_out (h : St w s g sh ds) {x : Int} (hx : x < 0 ∨ (sh.length : Int) ≤ x) (now q v : Int) (bad : Bool) :
    Calls Try.prog 12 #[.pointer (some ⟨s, 0, none⟩), .int .i64 now, .agg #[.int .i64 x, .int .u8 q, .int .i64 v, .bool bad]] w fun e w' => e = .returned (.bool false) ∧ Fr (fun _ => False) w w' := by
  have h1 := h.calm ((Fr.refl (fun _ => False) w).alloc (.cells #[.int .i64 x, .int .u8 q, .int .i64 v, .bool bad] 39))
  have F := (Fr.refl (fun _ => False) w).alloc (.cells #[.int .i64 x, .int .u8 q, .int .i64 v, .bool bad] 39)
  have HO := Lib.hid (of_out h1 hx)
  go_enter Try.func12, Try.ntmps12
  go_wp2_with fail
  refine HO.out.mono ?_
  rintro e w' ⟨rfl, rfl⟩
  go_wp2
  go_ret
  exact ⟨rfl, F⟩
set_option maxHeartbeats 800000 in
theorem put_nil (w : World) (x now q v : Int) (bad : Bool) :
    Calls Try.prog 12 #[.pointer none, .int .i64 now, .agg #[.int .i64 x, .int .u8 q, .int .i64 v, .bool bad]] w fun e w' => e = .returned (.bool false) ∧ Fr (fun _ => False) w w' := by
  have F := (Fr.refl (fun _ => False) w).alloc (.cells #[.int .i64 x, .int .u8 q, .int .i64 v, .bool bad] 39)
  go_enter Try.func12, Try.ntmps12
  go_wp2_with fail
  refine (of_nil _ x).mono ?_
  rintro e w' ⟨rfl, rfl⟩
  go_wp2
  go_ret
  exact ⟨rfl, F⟩
end

end Go.Proofs.Ytbmhgkajjjiniaa
