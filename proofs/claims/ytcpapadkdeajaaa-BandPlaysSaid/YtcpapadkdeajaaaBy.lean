/- By. -/
import Derived.Test.YtcpapadkdeajaaaChecked
import Derived.WalkKit
import Derived.Laws.IdiomCopy
import Derived.Deep.QuietTactic
import Derived.BigQuiet
import Derived.Lib.Hide
import Derived.OpenShut
import Derived.StillTailTactics
import Derived.Deep.RegionWith
import Derived.Deep.RegionLaw
import Derived.Deep.Slices
import Derived.Deep.RegionHeld3
import Derived.OwnWalk
import Derived.Deep.DeepCutAuto
import Derived.Deep.CutRange
import Derived.Test.YtcpapadkdeajaaaBase
import Derived.Test.YtcpapadkdeajaaaCalm
import Derived.Test.YtcpapadkdeajaaaCalmT
import Derived.Test.YtcpapadkdeajaaaCel
import Derived.Test.YtcpapadkdeajaaaApp
import Derived.Test.YtcpapadkdeajaaaRE
import Derived.Test.YtcpapadkdeajaaaREB
import Derived.Test.YtcpapadkdeajaaaREC
import Derived.Test.YtcpapadkdeajaaaREA
import Derived.Test.YtcpapadkdeajaaaBq
import Derived.Test.YtcpapadkdeajaaaBp
import Derived.Test.YtcpapadkdeajaaaBx
import Derived.Test.YtcpapadkdeajaaaBr
import Derived.Test.YtcpapadkdeajaaaBk0
import Derived.Test.YtcpapadkdeajaaaBt
import Derived.Test.YtcpapadkdeajaaaBk
import Derived.Test.YtcpapadkdeajaaaBu
import Derived.Test.YtcpapadkdeajaaaBv
namespace Go.Proofs.Ytcpapadkdeajaaa
open Go.RowKit
set_option linter.unusedVariables false
set_option linter.unusedSimpArgs false

/-! ### BandPlays -/
abbrev At := Bool × Int × Int × Bool × Int
def EAt : El At := ⟨fun y => [.bool y.1, .int .u8 y.2.1, .int .i64 y.2.2.1, .bool y.2.2.2.1, .int .i64 y.2.2.2.2], 5, fun _ => rfl, by omega, (false, 0, 0, false, 0)⟩
theorem Reads.at__ {w : World} {b o n : Nat} {xs : List At} (h : Reads EAt w (some ⟨b, o, none⟩) n xs) {k : Nat} (hk : k < n) {y0 y1 y2 y3 y4} (hy : xs.getD k EAt.z = (y0, y1, y2, y3, y4)) :
    w.cell? ⟨b, o + k * 5, none⟩ = some (.bool y0) ∧ w.cell? ⟨b, o + k * 5 + 1, none⟩ = some (.int .u8 y1) ∧ w.cell? ⟨b, o + k * 5 + 2, none⟩ = some (.int .i64 y2) ∧ w.cell? ⟨b, o + k * 5 + 3, none⟩ = some (.bool y3) ∧ w.cell? ⟨b, o + k * 5 + 4, none⟩ = some (.int .i64 y4) := by
  refine ⟨?_, ?_, ?_, ?_, ?_⟩
  · have := h.cellj (j := 0) hk (by decide); rw [hy] at this; exact this
  · have := h.cellj (j := 1) hk (by decide); rw [hy] at this; exact this
  · have := h.cellj (j := 2) hk (by decide); rw [hy] at this; exact this
  · have := h.cellj (j := 3) hk (by decide); rw [hy] at this; exact this
  · have := h.cellj (j := 4) hk (by decide); rw [hy] at this; exact this
def okAt (y : At) : Prop := True ∧ (Lit.int .u8 y.2.1).wf = true ∧ (Lit.int .i64 y.2.2.1).wf = true ∧ True ∧ (Lit.int .i64 y.2.2.2.2).wf = true
/-- The queue and the document's, alike. -/
def Bdy (W : World) (q : Nat) (qs : Nat → Nat × Nat) (mb : Nat) (r0 r1 r2 : Int) (B0 j : Nat) (w : World) : Prop :=
  ∃ (ms : List It) (A : Option Addr) (k : Nat), Qu w q qs (tri (RE.room r0) (RE.room r1) (RE.room r2)) (fun i => bnd ((i : Int) + 1) ms) ∧ w.heap[mb]? = some (.cells #[.int .i64 r0, .int .i64 r1, .int .i64 r2, .slice A ms.length k] 41 (0, 0)) ∧
    Reads EIt w A ms.length ms ∧ ms.length ≤ k ∧ (∀ ad, A = some ad → B0 ≤ ad.block) ∧ ms.length ≤ j ∧ (∀ y, y ∈ ms → 1 ≤ y.1 ∧ y.1 ≤ 3) ∧ (∀ i : Nat, i < 3 → Uq (bnd ((i : Int) + 1) ms)) ∧ Fr (fun _ => False) W w ∧ B0 ≤ w.heap.size
theorem rd_lt {α : Type} {E : El α} {w : World} {A : Option Addr} {n : Nat} {xs : List α} (h : Reads E w A n xs) {ad : Addr} (ha : A = some ad) (h0 : 0 < n) : ad.block < w.heap.size := by
  obtain ⟨zb, zo, h1, h2⟩ := h.plain h0
  rw [h1] at ha; cases ha; exact h2
def ByRel (W : World) (q : Nat) (qs : Nat → Nat × Nat) (mb : Nat) (r0 r1 r2 : Int) (B0 n : Nat) (i : Value) (wr : World) : Prop := ∃ j : Nat, i = .int .i64 j ∧ j ≤ n ∧ Bdy W q qs mb r0 r1 r2 B0 j wr
def ByIn (wz : World) (i : Value) (wr : World) : Prop := ∃ p : Nat, i = .int .u8 p ∧ p ≤ 5 ∧ Fr (fun _ => False) wz wr
theorem Bdy.calm {W w w' : World} {q : Nat} {qs : Nat → Nat × Nat} {mb : Nat} {r0 r1 r2 : Int} {B0 j : Nat} (h : Bdy W q qs mb r0 r1 r2 B0 j w) (hf : Fr (fun _ => False) w w') : Bdy W q qs mb r0 r1 r2 B0 j w' := by
  obtain ⟨ms, A, k, h1, h2, h3, h4, h5, h6, h7, h8, h9, h10⟩ := h
  exact ⟨ms, A, k, h1.calm hf, hf.at_ h2 (fun x => x), h3.fr hf (fun _ _ x => x), h4, h5, h6, h7, h8, h9.step hf nop, by have := hf.size; omega⟩
theorem bnd_none {ms : List It} (h : ∀ y, y ∈ ms → 1 ≤ y.1 ∧ y.1 ≤ 3) {p : Int} (hp : p < 1 ∨ 3 < p) : bnd p ms = [] := by
  unfold bnd
  rw [List.map_eq_nil_iff, List.filter_eq_nil_iff]
  intro z hz
  have := h z hz
  simp only [decide_eq_true_eq]
  omega
/-- Who waits, by the program. -/
theorem Band_all {w : World} {q : Nat} {qs : Nat → Nat × Nat} {cs : Nat → Nat} {ms : List It} (h : Qu w q qs cs (fun i => bnd ((i : Int) + 1) ms)) (hrg : ∀ y, y ∈ ms → 1 ≤ y.1 ∧ y.1 ≤ 3) (p : Nat) :
    Calls Try.prog 16 #[.pointer (some ⟨q, 0, none⟩), .int .u8 (p : Int)] w (RdPost w (bnd (p : Int) ms)) := by
  by_cases hp : 1 ≤ p ∧ p ≤ 3
  · have := Band_yes h (i := p - 1) (by omega)
    rw [show ((p - 1 : Nat) : Int) + 1 = (p : Int) from by omega] at this
    refine this.mono ?_
    rintro e w' ⟨v, rfl, O, F⟩
    obtain ⟨A, k, hv, rd, _⟩ := O.reads
    exact ⟨A, k, by rw [hv], rd, F⟩
  · refine (Band_no w q (p : Int) (by omega)).mono ?_
    rintro e w' ⟨rfl, rfl⟩
    rw [bnd_none hrg (by omega)]
    exact ⟨none, 0, rfl, ⟨rfl, .inl rfl⟩, Fr.refl _ _⟩
structure BAp (W : World) (q : Nat) (qs : Nat → Nat × Nat) (mb B0 : Nat) : Prop where
  pq : ∀ k, inQ q qs k → W.heap.size ≤ k ∧ k < B0
  pm : W.heap.size ≤ mb ∧ mb < B0
  ne : ¬ inQ q qs mb
theorem Bdy.start {W w : World} {q : Nat} {qs : Nat → Nat × Nat} {mb B0 : Nat} {r0 r1 r2 : Int} (hq : Qu w q qs (tri (RE.room r0) (RE.room r1) (RE.room r2)) (fun _ => [])) (hg : w.heap[mb]? = some (.cells #[.int .i64 r0, .int .i64 r1, .int .i64 r2, .slice none 0 0] 41 (0, 0))) (hf : Fr (fun _ => False) W w) (hb : B0 ≤ w.heap.size) : Bdy W q qs mb r0 r1 r2 B0 0 w :=
  ⟨[], none, 0, hq, hg, ⟨rfl, .inl rfl⟩, Nat.le_refl _, fun ad h => (by cases h), Nat.le_refl _, fun y hy => (by cases hy), fun i _ => List.Pairwise.nil, hf, hb⟩
set_option maxRecDepth 100000 in
set_option maxHeartbeats 8000000 in
theorem BandPlays_walk (r0 r1 r2 : Int) (A0 : Option Addr) (n cap : Nat) (zs : List At) (W : World) (w0 : (Lit.int .i64 r0).wf = true) (w1 : (Lit.int .i64 r1).wf = true) (w2 : (Lit.int .i64 r2).wf = true) (hr : Reads EAt W A0 n zs) (hw : ∀ y, y ∈ zs → okAt y) (hcap : n ≤ cap ∧ cap ≤ maxLen) :
    Calls Try.prog 6 #[.agg #[.int .i64 r0, .int .i64 r1, .int .i64 r2], .slice A0 n cap] W fun e w' => e = .returned (.bool true) ∧ Below W.heap.size W w' := by
  clear hcap w0 w1 w2
  have HL := Lib.hid hr.1
  have HW := Lib.hid hw
  have HRD := Lib.hid hr
  clear hw hr
  have B1 := alloc_is (w := W) (n := W.heap.size) (.cells #[.int .i64 r0, .int .i64 r1, .int .i64 r2] 26) rfl
  have F1 := (Fr.refl (fun _ => False) W).alloc (.cells #[.int .i64 r0, .int .i64 r1, .int .i64 r2] 26)
  generalize hw1 : W.alloc (.cells #[.int .i64 r0, .int .i64 r1, .int .i64 r2] 26) = w1 at B1 F1
  have HB1 := Lib.hid B1
  have HF1 := Lib.hid F1
  clear B1 F1
  by_cases hn : n ≤ 100
  · have e0 : ¬ (100 : Int) < (n : Int) := by omega
    go_enter Try.func6, Try.ntmps6
    go_wp2_with fail
    refine (first_any _).mono ?_
    rintro e w2 ⟨rfl, F2⟩
    have HF2 := Lib.hid (HF1.out.step F2 nop)
    have HB2 := Lib.hid (F2.at_ HB1.out (fun x => x))
    clear F2 HF1 HB1 hw1
    obtain ⟨c0, c1, c2⟩ := cells3 HB2.out
    go_upto_region 4 with (fail)
    go_cut [5, 6] (fun s5 s6 wx => ∃ q qs mb B0, s5 = .pointer (some ⟨q, 0, none⟩) ∧ s6 = .pointer (some ⟨mb, 0, none⟩) ∧ BAp W q qs mb B0 ∧ Bdy W q qs mb r0 r1 r2 B0 0 wx)
    case first =>
      go_wp2_with fail
      have HS : Hid (∀ w', Fr (fun _ => False) w2 w' → w'.cell? ⟨W.heap.size, 0, none⟩ = some (.int .i64 r0) ∧ w'.cell? ⟨W.heap.size, 1, none⟩ = some (.int .i64 r1) ∧ w'.cell? ⟨W.heap.size, 2, none⟩ = some (.int .i64 r2)) := Lib.hid (fun w' h => cells3 (h.at_ HB2.out (fun x => x)))
      have HNW : Hid (∀ w', Fr (fun _ => False) w2 w' → Calls Try.prog 9 #[.agg #[.int .i64 r0, .int .i64 r1, .int .i64 r2]] w' fun e w'' => ∃ q qs, e = .returned (.pointer (some ⟨q, 0, none⟩)) ∧ Qu w'' q qs (tri (RE.room r0) (RE.room r1) (RE.room r2)) (fun _ => []) ∧ Fr (fun _ => False) w' w'' ∧ Fr (fun _ => False) w2 w'' ∧ (∀ k, inQ q qs k → w2.heap.size ≤ k) ∧ ∀ k, inQ q qs k → w'.heap.size ≤ k) := Lib.hid (fun w' h => (qnew w' r0 r1 r2).mono fun e w'' ⟨q, qs, h1, h2, h3, h4⟩ => ⟨q, qs, h1, h2, h3, h.step h3 nop, fun k hk => Nat.le_trans h.size (h4 k hk), h4⟩)
      have hF0 : Fr (fun _ => False) w2 w2.drew := (Fr.refl _ _).drew
      go_region_held3 (fun w' => w'.cell? ⟨W.heap.size, 0, none⟩ = some (.int .i64 r0) ∧ w'.cell? ⟨W.heap.size, 1, none⟩ = some (.int .i64 r1) ∧ w'.cell? ⟨W.heap.size, 2, none⟩ = some (.int .i64 r2))
        (first | exact HS.out _ (by assumption) | exact HS.out _ (Fr.alloc (by assumption) _) | exact HS.out _ (Fr.put4 (by assumption) (fun h => absurd h (Nat.lt_irrefl _)) _ _ _ _))
        ((go_at_call 9; refine (HNW.out _ (by first | assumption | exact Fr.alloc (by assumption) _)).mono ?_; rintro e wA ⟨q, qs, rfl, QA, FA0, FA, hup, hup2⟩; first | (have G4 := FA0.at_ (alloc_is (w := w2) (n := w2.heap.size) (.cells #[.int .i64 0, .int .i64 0, .int .i64 0, .slice none 0 0] 41) rfl) (fun x => x); obtain ⟨K0, K1, K2, K3⟩ := cells4 G4; have z0 := frozen_of G4 0; have z1 := frozen_of G4 1; have z2 := frozen_of G4 2; have z3 := frozen_of G4 3) | skip))
      · have QB := QA.calm ((Fr.refl (fun _ => False) wA).alloc (.cells #[.int .i64 r0, .int .i64 r1, .int .i64 r2, .slice none 0 0] 41))
        have G := alloc_is (w := wA) (n := wA.heap.size) (.cells #[.int .i64 r0, .int .i64 r1, .int .i64 r2, .slice none 0 0] 41) rfl
        have hqs := fun k hk => QA.in_ (k := k) hk
        have hsz := FA.size
        have hsw := HF2.out.size
        have FB := (HF2.out.step FA nop).alloc (.cells #[.int .i64 r0, .int .i64 r1, .int .i64 r2, .slice none 0 0] 41)
        have HR : Hid (∃ q' qs' mb B0, (Value.pointer (some ⟨q, 0, none⟩)) = .pointer (some ⟨q', 0, none⟩) ∧ (Value.pointer (some ⟨wA.heap.size, 0, none⟩)) = .pointer (some ⟨mb, 0, none⟩) ∧ BAp W q' qs' mb B0 ∧ Bdy W q' qs' mb r0 r1 r2 B0 0 (wA.alloc (.cells #[.int .i64 r0, .int .i64 r1, .int .i64 r2, .slice none 0 0] 41))) := Lib.hid
          ⟨q, qs, wA.heap.size, (wA.alloc (.cells #[.int .i64 r0, .int .i64 r1, .int .i64 r2, .slice none 0 0] 41)).heap.size, rfl, rfl, ⟨fun k hk => ⟨by have := hup k hk; omega, by have := hqs k hk; simp; omega⟩, ⟨by omega, by simp⟩, fun h => by have := hqs _ h; omega⟩, Bdy.start QB G FB (Nat.le_refl _)⟩
        clear QB G FB QA FA0 FA hup hqs hF0 HS HNW
        go_wp2_with fail
        go_meet
        case rel => exact HR.out
      · have hqs := fun k hk => QA.in_ (k := k) hk
        have hsz := FA.size
        have hsw := HF2.out.size
        have hm2 : w2.heap.size < wA.heap.size := lt_of G4
        have G := put4y (y0 := .int .i64 r0) (y1 := .int .i64 r1) (y2 := .int .i64 r2) (y3 := .slice none 0 0) G4
        have FB := (HF2.out.step FA nop).put4 (b := w2.heap.size) (fun h => absurd h (by omega)) (.int .i64 r0) (.int .i64 r1) (.int .i64 r2) (.slice none 0 0)
        have hne : ¬ inQ q qs w2.heap.size := fun h => by
          have h1 := hup2 _ h
          change (w2.alloc (.cells #[.int .i64 0, .int .i64 0, .int .i64 0, .slice none 0 0] 41)).heap.size ≤ w2.heap.size at h1
          have h2 : (w2.alloc (.cells #[.int .i64 0, .int .i64 0, .int .i64 0, .slice none 0 0] 41)).heap.size = w2.heap.size + 1 := by simp
          omega
        have FP := (Fr.refl (fun i => i = w2.heap.size) wA).put4 (b := w2.heap.size) (fun _ => rfl) (.int .i64 r0) (.int .i64 r1) (.int .i64 r2) (.slice none 0 0)
        have QB := QA.fr FP (fun k hk e => hne (e ▸ hk))
        have hszp := FP.size
        generalize hwp : (((wA.setCell ⟨w2.heap.size, 0, none⟩ (.int .i64 r0)).setCell ⟨w2.heap.size, 1, none⟩ (.int .i64 r1)).setCell ⟨w2.heap.size, 2, none⟩ (.int .i64 r2)).setCell ⟨w2.heap.size, 3, none⟩ (.slice none 0 0) = wP at G FB FP QB hszp ⊢
        have HR : Hid (∃ q' qs' mb B0, (Value.pointer (some ⟨q, 0, none⟩)) = .pointer (some ⟨q', 0, none⟩) ∧ (Value.pointer (some ⟨w2.heap.size, 0, none⟩)) = .pointer (some ⟨mb, 0, none⟩) ∧ BAp W q' qs' mb B0 ∧ Bdy W q' qs' mb r0 r1 r2 B0 0 wP) := Lib.hid
          ⟨q, qs, w2.heap.size, wA.heap.size, rfl, rfl, ⟨fun k hk => ⟨by have := hup k hk; omega, hqs k hk⟩, ⟨hsw, hm2⟩, hne⟩, Bdy.start QB G FB hszp⟩
        clear G FB QB FP QA FA0 FA hup hqs hF0 HS HNW
        go_wp2_with fail
        go_meet
        case rel => exact HR.out
    case rest =>
      obtain ⟨q, qs, mb, B0, hs5, hs6, hAP, hBd⟩ := hcut
      generalize hwc : wc = w4 at hBd ⊢
      clear hwc
      obtain rfl := hs5.symm
      obtain rfl := hs6.symm
      have HAP := Lib.hid hAP
      have HRL : Hid (ByRel W q qs mb r0 r1 r2 B0 n (.int .i64 0) w4) := Lib.hid ⟨0, rfl, Nat.zero_le _, hBd⟩
      clear hBd hAP hs5 hs6
      go_wp2_with fail
      go_loopw [7] (fun i wr => ByRel W q qs mb r0 r1 r2 B0 n i wr) (fun i _ => n - (intOf i).toNat)
      case atStart => exact HRL.out
      case round =>
        clear HRL
        obtain ⟨j, rfl, hj, hBd⟩ := hrel
        have HBJ := Lib.hid hBd
        clear hBd
        by_cases hlt : j < n
        · have hlt' : (j : Int) < (n : Int) := by omega
          obtain ⟨ms, A, k, Q, G, M, hk, hA, hl, hrg, hu, F, hs⟩ := HBJ.out
          have rz := HRD.out.fr F (fun _ _ x => x)
          obtain ⟨zb, zo, rfl, hzb⟩ := rz.plain (by omega)
          have hwf := HW.out (zs.getD j EAt.z) (by have := HL.out; simp [List.getD_eq_getElem?_getD, this, hlt])
          obtain ⟨y, hy⟩ : ∃ y, zs.getD j EAt.z = y := ⟨_, rfl⟩
          rw [hy] at hwf
          obtain ⟨y0, y1, y2, y3, y4⟩ := y
          have b1 : 0 ≤ y1 ∧ y1 ≤ 255 := bounds_u8 hwf.2.1
          obtain ⟨l0, l1, l2, l3, l4⟩ := rz.at__ hlt hy
          have HQ := Lib.hid Q
          have HG := Lib.hid G
          have HM := Lib.hid M
          have HF := Lib.hid F
          have HRG := Lib.hid hrg
          have HUQ := Lib.hid hu
          have HA := Lib.hid hA
          have HKK := Lib.hid hk
          have HRZ := Lib.hid rz
          have HYY := Lib.hid hy
          clear Q G M hk hA hrg hu F rz hy hwf hzb
          cases y0
          case true =>
            have HRT := Lib.hid (take_both (q := q) (qs := qs) wr r0 r1 r2 A k B0 ms HM.out (by omega) HKK.out HA.out hs ⟨HRG.out, HUQ.out⟩)
            obtain ⟨c0, c1, c2, c3⟩ := cells4 HG.out
            go_wp2_with fail
            refine HRT.out.mono ?_
            rintro e w8 ⟨ms', A1, n1, k1, x0, x1, x2, x3, ok, rfl, hn', R8, hA1, hk1, hl1, -, hT, hg', F8⟩
            have HT := Lib.hid hT
            have HA1 := Lib.hid hA1
            have HG' := Lib.hid hg'
            have HN' := Lib.hid hn'
            have HL1 := Lib.hid hl1
            have HK1 := Lib.hid hk1
            clear c0 c1 c2 c3 l0 l1 l2 l3 l4 hT hA1 hg' hn' hl1 hk1
            have Bq := alloc_at (alloc_is (w := w8) (n := w8.heap.size) (.cells #[.int .i64 0, .int .i64 0, .int .i64 0, .slice none 0 0] 41) rfl) (.cells #[.int .i64 0, .bool false, .int .i64 0] 30)
            have Be := alloc_is (w := w8.alloc (.cells #[.int .i64 0, .int .i64 0, .int .i64 0, .slice none 0 0] 41)) (n := w8.heap.size + 1) (.cells #[.int .i64 0, .bool false, .int .i64 0] 30) (by simp)
            have Fa := ((Fr.refl (fun _ => False) w8).alloc (.cells #[.int .i64 0, .int .i64 0, .int .i64 0, .slice none 0 0] 41)).alloc (.cells #[.int .i64 0, .bool false, .int .i64 0] 30)
            generalize hwm : (w8.alloc (.cells #[.int .i64 0, .int .i64 0, .int .i64 0, .slice none 0 0] 41)).alloc (.cells #[.int .i64 0, .bool false, .int .i64 0] 30) = wm at Bq Be Fa
            obtain ⟨p0, p1, p2, p3⟩ := cells4 Bq
            have zp0 := frozen_of Bq 0
            have zp1 := frozen_of Bq 1
            have zp2 := frozen_of Bq 2
            have zp3 := frozen_of Bq 3
            have BQ := put4y (y0 := .int .i64 r0) (y1 := .int .i64 r1) (y2 := .int .i64 r2) (y3 := .slice A1 n1 k1) Bq
            have FQ := (Fr.refl (fun i => i = w8.heap.size) wm).put4 (b := w8.heap.size) (fun _ => rfl) (.int .i64 r0) (.int .i64 r1) (.int .i64 r2) (.slice A1 n1 k1)
            generalize hwq : ((((wm.setCell ⟨w8.heap.size, 0, none⟩ (.int .i64 r0)).setCell ⟨w8.heap.size, 1, none⟩ (.int .i64 r1)).setCell ⟨w8.heap.size, 2, none⟩ (.int .i64 r2)).setCell ⟨w8.heap.size, 3, none⟩ (.slice A1 n1 k1)) = wq at BQ FQ
            have Be2 := FQ.at_ Be (fun (e : w8.heap.size + 1 = w8.heap.size) => by omega)
            obtain ⟨u0, u1, u2⟩ := cells3 Be2
            have zu0 := frozen_of Be2 0
            have zu1 := frozen_of Be2 1
            have zu2 := frozen_of Be2 2
            have BE := put3y (y0 := .int .i64 x1) (y1 := .bool x2) (y2 := .int .i64 x3) Be2
            have FE := (Fr.refl (fun i => i = w8.heap.size + 1) wq).put3 (b := w8.heap.size + 1) (fun _ => rfl) (.int .i64 x1) (.bool x2) (.int .i64 x3)
            generalize hwe : (((wq.setCell ⟨(w8.heap.size + 1), 0, none⟩ (.int .i64 x1)).setCell ⟨(w8.heap.size + 1), 1, none⟩ (.bool x2)).setCell ⟨(w8.heap.size + 1), 2, none⟩ (.int .i64 x3)) = we at BE FE
            have BQe := FE.at_ BQ (fun (e : w8.heap.size = w8.heap.size + 1) => by omega)
            have FY : Fr (fun _ => False) w8 we := (Fa.trans FQ (fun i hi (h : i = w8.heap.size) => by omega)).trans FE (fun i hi (h : i = w8.heap.size + 1) => by omega)
            have FX := F8.step FY nop
            obtain ⟨q0, q1, q2, q3⟩ := cells4 BQe
            have GB := FX.at_ HG.out (fun x => x)
            obtain ⟨c9_0, c9_1, c9_2, c9_3⟩ := cells4 GB
            have z9_0 := frozen_of GB 0
            have z9_1 := frozen_of GB 1
            have z9_2 := frozen_of GB 2
            have z9_3 := frozen_of GB 3
            have B9 := put4y (y0 := .int .i64 r0) (y1 := .int .i64 r1) (y2 := .int .i64 r2) (y3 := .slice A1 n1 k1) GB
            have Fo9 := (Fr.refl (fun i => i = mb) we).put4 (b := mb) (fun _ => rfl) (.int .i64 r0) (.int .i64 r1) (.int .i64 r2) (.slice A1 n1 k1)
            generalize hwo9 : ((((we.setCell ⟨mb, 0, none⟩ (.int .i64 r0)).setCell ⟨mb, 1, none⟩ (.int .i64 r1)).setCell ⟨mb, 2, none⟩ (.int .i64 r2)).setCell ⟨mb, 3, none⟩ (.slice A1 n1 k1)) = wo9 at B9 Fo9
            obtain ⟨d9_0, d9_1, d9_2, d9_3⟩ := cells4 B9
            have hne9 : w8.heap.size + 1 ≠ mb := by have := HAP.out.pm; have := F8.size; omega
            have BE9 := Fo9.at_ BE (fun e => hne9 e)
            have HG9 := Lib.hid B9
            have HM9 : Hid (Reads EIt wo9 A1 n1 ms') := Lib.hid ((R8.fr FY (fun _ _ x => x)).fr Fo9 (fun ad h e => by have := HA1.out ad h; have := HAP.out.pm; omega))
            have HQ9 := Lib.hid ((HQ.out.calm FX).fr Fo9 (fun k hk e => HAP.out.ne (e ▸ hk)))
            have HF9 := Lib.hid ((HF.out.step FX nop).step Fo9 (fun i e => by have := HAP.out.pm; omega))
            have hs9 : B0 ≤ wo9.heap.size := by have := FX.size; have := Fo9.size; omega
            have HBE9 := Lib.hid BE9
            have hne8 : Hid (¬ inQ q qs (w8.heap.size + 1)) := Lib.hid (fun h => by have := (HAP.out.pq _ h).2; have := F8.size; omega)
            clear Bq Be Fa BQ FQ Be2 BE FE BQe FX FY GB B9 BE9 F8 R8 hne9
            go_wp2_with fail
            clear c9_0 z9_0 d9_0 c9_1 z9_1 d9_1 c9_2 z9_2 d9_2 c9_3 z9_3 d9_3 Fo9 hwo9
            clear p0 p1 p2 p3 zp0 zp1 zp2 zp3 u0 u1 u2 zu0 zu1 zu2 q0 q1 q2 q3 hwm hwq hwe
            refine (HT.out _ HQ9.out).mono ?_
            rintro e w10 ⟨rfl, Q10, F10⟩
            have Bz12 : (w10.alloc (.cells #[.int .i64 0, .bool false, .int .i64 0] 30)).heap[w10.heap.size]? = some (.cells #[.int .i64 0, .bool false, .int .i64 0] 30 (0, 0)) := alloc_is _ rfl
            have Fz12 := (Fr.refl (fun _ => False) w10).alloc (.cells #[.int .i64 0, .bool false, .int .i64 0] 30)
            generalize hwm12 : w10.alloc (.cells #[.int .i64 0, .bool false, .int .i64 0] 30) = wm12 at Bz12 Fz12
            obtain ⟨c12_0, c12_1, c12_2⟩ := cells3 Bz12
            have z12_0 := frozen_of Bz12 0
            have z12_1 := frozen_of Bz12 1
            have z12_2 := frozen_of Bz12 2
            have B12 := put3y (y0 := .int .i64 x1) (y1 := .bool x2) (y2 := .int .i64 x3) Bz12
            have Fo12 := (Fr.refl (fun i => i = w10.heap.size) wm12).put3 (b := w10.heap.size) (fun _ => rfl) (.int .i64 x1) (.bool x2) (.int .i64 x3)
            generalize hwo12 : (((wm12.setCell ⟨w10.heap.size, 0, none⟩ (.int .i64 x1)).setCell ⟨w10.heap.size, 1, none⟩ (.bool x2)).setCell ⟨w10.heap.size, 2, none⟩ (.int .i64 x3)) = wo12 at B12 Fo12
            have FF12 := Fz12.trans Fo12 (fun i hi (h : i = w10.heap.size) => by omega)
            obtain ⟨d12_0, d12_1, d12_2⟩ := cells3 B12
            have HBE := (F10.at_ HBE9.out hne8.out)
            have HBE2 := FF12.at_ HBE (fun x => x)
            obtain ⟨t0, t1, t2⟩ := cells3 HBE2
            have HBD : Hid (Bdy W q qs mb r0 r1 r2 B0 (j + 1) wo12) := Lib.hid ⟨ms', A1, k1, Q10.calm FF12, by rw [HN'.out]; exact FF12.at_ (F10.at_ HG9.out HAP.out.ne) (fun x => x), by rw [HN'.out]; exact (HM9.out.fr F10 (fun ad h hq => by have := HA1.out ad h; have := (HAP.out.pq _ hq).2; omega)).fr FF12 (fun _ _ x => x), by rw [HN'.out]; exact HK1.out, HA1.out, by have := HL1.out; have := HN'.out; omega, HG'.out.1, HG'.out.2, (HF9.out.step F10 (fun i hi => (HAP.out.pq i hi).1)).step FF12 nop, by have := F10.size; have := FF12.size; omega⟩
            clear Q10 F10 HBE HBE2 HG9 HM9 HQ9 HF9 hs9 HBE9 hne8 B12 FF12 HT
            clear HQ HG HM HF HRG HUQ HA HKK HRZ HYY HRT
            go_wp2_with fail
            clear c12_0 z12_0 c12_1 z12_1 c12_2 z12_2 d12_0 d12_1 d12_2 Bz12 Fz12 Fo12 hwm12 hwo12
            clear t0 t1 t2
            obtain ⟨ms2, A2, k2, Q, G, M, hk, hA, hl, hrg, hu, F, hs⟩ := HBD.out
            have HQz := Lib.hid Q
            have HGz := Lib.hid G
            have HMz := Lib.hid M
            have HRG := Lib.hid hrg
            have hml : ms2.length ≤ 101 := by omega
            clear Q G M hk hA hl hrg hu F hs
            go_loopw [17] (fun i wr => ByIn wo12 i wr) (fun i _ => 5 - (intOf i).toNat)
            case atStart => exact ⟨0, rfl, Nat.zero_le _, Fr.refl _ _⟩
            case round =>
              obtain ⟨p, rfl, hp, Fp⟩ := hrel
              have HFp := Lib.hid Fp
              clear Fp
              by_cases hp5 : p < 5
              · have hp5' : (p : Int) < 5 := by omega
                obtain ⟨l, hl⟩ : ∃ l, bnd (p : Int) ms2 = l := ⟨_, rfl⟩
                have hll : l.length ≤ 101 := by rw [← hl]; have := bnd_len (p : Int) ms2; omega
                have HPB : Hid (∀ w', Fr (fun _ => False) wr w' → Calls Try.prog 16 #[.pointer (some ⟨q, 0, none⟩), .int .u8 (p : Int)] w' fun e w'' => ∃ A1 k1, e = .returned (.slice A1 l.length k1) ∧ Hid (∀ w3, Fr (fun _ => False) w'' w3 → Reads RE.E w3 A1 l.length l) ∧ Fr (fun _ => False) w' w'' ∧ Fr (fun _ => False) wr w'') := Lib.hid (fun w' h => (Band_all (HQz.out.calm (HFp.out.step h nop)) HRG.out p).mono fun e w'' ⟨A1, k1, h1, h2, h3⟩ => by
                  rw [hl] at h1 h2
                  exact ⟨A1, k1, h1, Lib.hid (fun w3 h4 => h2.fr h4 (fun _ _ x => x)), h3, h.step h3 nop⟩)
                have HRB : Hid (∀ w', Fr (fun _ => False) wr w' → Calls Try.prog 17 #[.agg #[.int .i64 r0, .int .i64 r1, .int .i64 r2, .slice A2 ms2.length k2], .int .u8 (p : Int)] w' fun e w'' => ∃ A1 k1, e = .returned (.slice A1 l.length k1) ∧ Hid (∀ w3, Fr (fun _ => False) w'' w3 → Reads RE.E w3 A1 l.length l) ∧ Fr (fun _ => False) w' w'' ∧ Fr (fun _ => False) wr w'') := Lib.hid (fun w' h => (rbnd w' r0 r1 r2 A2 ms2.length k2 ms2 (p : Int) (HMz.out.fr (HFp.out.step h nop) (fun _ _ x => x)) (by omega)).mono fun e w'' ⟨A1, k1, h1, h2, h3⟩ => by
                  rw [hl] at h1 h2
                  exact ⟨A1, k1, h1, Lib.hid (fun w3 h4 => h2.fr h4 (fun _ _ x => x)), h3, h.step h3 nop⟩)
                have HSA : Hid (∀ w' A1 k1 A2 k2, Reads RE.E w' A1 l.length l → Reads RE.E w' A2 l.length l → Fr (fun _ => False) wr w' → Calls Try.prog 15 #[.slice A1 l.length k1, .slice A2 l.length k2] w' fun e w'' => e = .returned (.bool true) ∧ Fr (fun _ => False) wr w'') := Lib.hid (fun w' A1 k1 A2 k2 h1 h2 h => (rsame w' A1 A2 l.length k1 k2 l h1 h2 (by omega)).mono fun e w'' ⟨h3, h4⟩ => ⟨h3, h.step h4 nop⟩)
                have HS : Hid (∀ w', Fr (fun _ => False) wr w' → w'.cell? ⟨mb, 0, none⟩ = some (.int .i64 r0) ∧ w'.cell? ⟨mb, 1, none⟩ = some (.int .i64 r1) ∧ w'.cell? ⟨mb, 2, none⟩ = some (.int .i64 r2) ∧ w'.cell? ⟨mb, 3, none⟩ = some (.slice A2 ms2.length k2)) := Lib.hid (fun w' h => cells4 ((HFp.out.step h nop).at_ HGz.out (fun x => x)))
                have hF0 : Fr (fun _ => False) wr wr.drew := (Fr.refl _ _).drew
                clear hl
                go_wp2_with fail
                go_region_held3 (fun w' => w'.cell? ⟨mb, 0, none⟩ = some (.int .i64 r0) ∧ w'.cell? ⟨mb, 1, none⟩ = some (.int .i64 r1) ∧ w'.cell? ⟨mb, 2, none⟩ = some (.int .i64 r2) ∧ w'.cell? ⟨mb, 3, none⟩ = some (.slice A2 ms2.length k2))
                  (first | exact HS.out _ (by assumption))
                  (first
                    | (go_at_call 16; refine (HPB.out _ (by assumption)).mono ?_; rintro e wA ⟨AB, kB, rfl, RB, FB1, FB2⟩)
                    | (go_at_call 17; refine (HRB.out _ (by assumption)).mono ?_; rintro e wB ⟨AR, kR, rfl, RR, FR1, FR2⟩)
                    | (go_at_call 15; refine (HSA.out _ AB kB AR kR (RB.out _ (by first | assumption | exact Fr.refl _ _)) (RR.out _ (by first | assumption | exact Fr.refl _ _)) (by assumption)).mono ?_; rintro e wC ⟨rfl, FC⟩))
                all_goals
                  have HFC := Lib.hid (HFp.out.step FC nop)
                  clear FC hF0 HS HSA HRB HPB
                  go_wp2
                  go_roundw
                  case rel => exact ⟨p + 1, by go_num, by omega, HFC.out⟩
                  case measure => simp [intOf] <;> omega
              · have hp5' : ¬ (p : Int) < 5 := by omega
                go_wp2
                go_roundw
                case rel => exact ⟨j + 1, by go_num, by omega, HBD.out.calm HFp.out⟩
                case measure => simp [intOf] <;> omega
          case false =>
            have HPUT : Hid (∃ (c : Int) (ms' : List It), Hid (∀ w', Fr (fun _ => False) wr w' → Calls Try.prog 14 #[.agg #[.int .i64 r0, .int .i64 r1, .int .i64 r2, .slice A ms.length k], .int .u8 y1, .agg #[.int .i64 y2, .bool y3, .int .i64 y4]] w' fun e w'' => ∃ A1 k1, e = .returned (.tuple #[.agg #[.int .i64 r0, .int .i64 r1, .int .i64 r2, .slice A1 ms'.length k1], .int .i64 c]) ∧ Hid (∀ w3, Fr (fun _ => False) w'' w3 → Reads EIt w3 A1 ms'.length ms') ∧ (∀ ad, A1 = some ad → B0 ≤ ad.block) ∧ (∀ ad, A1 = some ad → 0 < ms'.length → ad.block < wr.heap.size ∨ w'.heap.size ≤ ad.block) ∧ ms'.length ≤ k1 ∧ Fr (fun _ => False) w' w'' ∧ Fr (fun _ => False) wr w'') ∧
                Hid (∀ w', Qu w' q qs (tri (RE.room r0) (RE.room r1) (RE.room r2)) (fun i => bnd ((i : Int) + 1) ms) → Calls Try.prog 10 #[.pointer (some ⟨q, 0, none⟩), .int .u8 y1, .agg #[.int .i64 y2, .bool y3, .int .i64 y4]] w' fun e w'' => e = .returned (.int .i64 c) ∧ Qu w'' q qs (tri (RE.room r0) (RE.room r1) (RE.room r2)) (fun i => bnd ((i : Int) + 1) ms') ∧ Fr (inQ q qs) w' w'') ∧
                ms'.length ≤ ms.length + 1 ∧ Hid (∀ y, y ∈ ms' → 1 ≤ y.1 ∧ y.1 ≤ 3) ∧ Hid (∀ i : Nat, i < 3 → Uq (bnd ((i : Int) + 1) ms'))) := Lib.hid (by
              by_cases hp : 1 ≤ y1 ∧ y1 ≤ 3
              · obtain ⟨i, hi, hpi⟩ : ∃ i : Nat, i < 3 ∧ y1 = (i : Int) + 1 := ⟨(y1 - 1).toNat, by omega, by omega⟩
                have hui := HUQ.out i hi
                rw [← hpi] at hui
                obtain ⟨c, ms', h1, h2, h3, h4, h5, h6⟩ := put_match (y2, y3, y4) (RE.room (tri r0 r1 r2 i)) hui
                have htri : tri (RE.room r0) (RE.room r1) (RE.room r2) i = RE.room (tri r0 r1 r2 i) := by unfold tri; split <;> (try split) <;> rfl
                refine ⟨c, ms', Lib.hid (fun w' h => ?_), Lib.hid (fun w' hq => ?_), h6, Lib.hid (fun y hy => ?_), Lib.hid (fun m hm => ?_)⟩
                · refine (rput w' r0 r1 r2 A ms.length k ms y1 y2 y3 y4 (HM.out.fr h (fun _ _ x => x)) (by omega) HKK.out hi hpi h1).mono ?_
                  rintro e w'' ⟨A1, k1, he, rd, hfresh, hk1, hf⟩
                  exact ⟨A1, k1, he, Lib.hid (fun w3 h4 => rd.fr h4 (fun _ _ x => x)), fun ad ha => by
                    rcases hfresh ad ha with h7 | h7
                    · have := h.size; omega
                    · exact HA.out ad (by rw [← h7.1]; exact ha), fun ad ha h0 => by
                    rcases hfresh ad ha with h7 | h7
                    · exact .inr h7
                    · obtain ⟨zb', zo', hA', hz'⟩ := HM.out.plain (by omega)
                      rw [h7.1, hA'] at ha
                      cases ha
                      exact .inl hz', hk1, hf, h.step hf nop⟩
                · refine (qput_p hq hi hpi y2 y3 y4 (c' := c) (l' := bnd y1 ms') (by rw [htri]; show putB _ (bnd ((i : Int) + 1) ms) _ = _; rw [← hpi]; exact h2)).mono ?_
                  rintro e w'' ⟨he, hq2, hf⟩
                  refine ⟨he, ?_, hf⟩
                  have hfun : upd (fun i : Nat => bnd ((i : Int) + 1) ms) i (bnd y1 ms') = (fun i : Nat => bnd ((i : Int) + 1) ms') := by
                    funext m
                    by_cases e : m = i
                    · subst e; rw [upd_same, hpi]
                    · rw [upd_ne _ e]; exact (h3 _ (by omega)).symm
                  rw [hfun] at hq2; exact hq2
                · rcases h5 y hy with h7 | h7
                  · exact HRG.out y h7
                  · omega
                · by_cases e : (m : Int) + 1 = y1
                  · rw [e]; exact h4
                  · rw [h3 _ e]; exact HUQ.out m hm
              · have hp' : y1 < 1 ∨ 3 < y1 := by omega
                refine ⟨1, ms, Lib.hid (fun w' h => ?_), Lib.hid (fun w' hq => ?_), by omega, HRG, HUQ⟩
                · refine (rput_no w' r0 r1 r2 A ms.length k ms y1 y2 y3 y4 (HM.out.fr h (fun _ _ x => x)) HKK.out hp').mono ?_
                  rintro e w'' ⟨A1, k1, he, rd, hfresh, hk1, hf⟩
                  exact ⟨A1, k1, he, Lib.hid (fun w3 h4 => rd.fr h4 (fun _ _ x => x)), fun ad ha => by
                    rcases hfresh ad ha with h7 | h7
                    · have := h.size; omega
                    · exact HA.out ad (by rw [← h7.1]; exact ha), fun ad ha h0 => by
                    rcases hfresh ad ha with h7 | h7
                    · exact .inr h7
                    · obtain ⟨zb', zo', hA', hz'⟩ := HM.out.plain (by omega)
                      rw [h7.1, hA'] at ha
                      cases ha
                      exact .inl hz', hk1, hf, h.step hf nop⟩
                · exact (qput_no hq hp' y2 y3 y4).mono fun e w'' ⟨h1, h2⟩ => ⟨h1, hq.calm h2, h2.mono (fun _ _ x => x.elim)⟩)
            have HS : Hid (∀ w', Fr (fun _ => False) wr w' → (w'.cell? ⟨mb, 0, none⟩ = some (.int .i64 r0) ∧ w'.cell? ⟨mb, 1, none⟩ = some (.int .i64 r1) ∧ w'.cell? ⟨mb, 2, none⟩ = some (.int .i64 r2) ∧ w'.cell? ⟨mb, 3, none⟩ = some (.slice A ms.length k)) ∧ w'.cell? ⟨zb, zo + j * 5 + 1, none⟩ = some (.int .u8 y1) ∧ w'.cell? ⟨zb, zo + j * 5 + 2, none⟩ = some (.int .i64 y2) ∧ w'.cell? ⟨zb, zo + j * 5 + 3, none⟩ = some (.bool y3) ∧ w'.cell? ⟨zb, zo + j * 5 + 4, none⟩ = some (.int .i64 y4)) := Lib.hid (fun w' h => ⟨cells4 (h.at_ HG.out (fun x => x)), ((HRZ.out.fr h (fun _ _ x => x)).at__ hlt HYY.out).2⟩)
            obtain ⟨c, ms', HRP, HQP, hml', HRG', HUQ'⟩ := HPUT.out
            have hF0 : Fr (fun _ => False) wr wr.drew := (Fr.refl _ _).drew
            go_wp2_with fail
            go_region_held3 (fun w' => (w'.cell? ⟨mb, 0, none⟩ = some (.int .i64 r0) ∧ w'.cell? ⟨mb, 1, none⟩ = some (.int .i64 r1) ∧ w'.cell? ⟨mb, 2, none⟩ = some (.int .i64 r2) ∧ w'.cell? ⟨mb, 3, none⟩ = some (.slice A ms.length k)) ∧ w'.cell? ⟨zb, zo + j * 5 + 1, none⟩ = some (.int .u8 y1) ∧ w'.cell? ⟨zb, zo + j * 5 + 2, none⟩ = some (.int .i64 y2) ∧ w'.cell? ⟨zb, zo + j * 5 + 3, none⟩ = some (.bool y3) ∧ w'.cell? ⟨zb, zo + j * 5 + 4, none⟩ = some (.int .i64 y4))
              (first | exact HS.out _ (by assumption) | exact HS.out _ (Fr.alloc (by assumption) _) | exact HS.out _ (Fr.put4 (by assumption) (fun h => absurd h (Nat.lt_irrefl _)) _ _ _ _))
              ((go_at_call 14; refine (HRP.out _ (by first | assumption | exact Fr.alloc (by assumption) _)).mono ?_; rintro e wA ⟨A1, k1, rfl, RA, hA1, hA2, hk1, FA0, FA⟩; first | (have G4 := FA0.at_ (alloc_is (w := wr) (n := wr.heap.size) (.cells #[.int .i64 0, .int .i64 0, .int .i64 0, .slice none 0 0] 41) rfl) (fun x => x); obtain ⟨K0, K1, K2, K3⟩ := cells4 G4; have z0 := frozen_of G4 0; have z1 := frozen_of G4 1; have z2 := frozen_of G4 2; have z3 := frozen_of G4 3) | skip))
            · have G5 := alloc_is (w := wA) (n := wA.heap.size) (.cells #[.int .i64 r0, .int .i64 r1, .int .i64 r2, .slice A1 ms'.length k1] 41) rfl
              have FB := FA.alloc (.cells #[.int .i64 r0, .int .i64 r1, .int .i64 r2, .slice A1 ms'.length k1] 41)
              have htb : wr.heap.size ≤ wA.heap.size := FA.size
              generalize hwB : wA.alloc (.cells #[.int .i64 r0, .int .i64 r1, .int .i64 r2, .slice A1 ms'.length k1] 41) = wB at G5 FB ⊢
              have FAB : Fr (fun _ => False) wA wB := by rw [← hwB]; exact (Fr.refl _ _).alloc _
              clear hwB
              have HRB' : Reads EIt wB A1 ms'.length ms' := (RA.out _ FAB)
              obtain ⟨o0, o1, o2, o3⟩ := cells4 G5
              have GB := FB.at_ HG.out (fun x => x)
              obtain ⟨c9_0, c9_1, c9_2, c9_3⟩ := cells4 GB
              have z9_0 := frozen_of GB 0
              have z9_1 := frozen_of GB 1
              have z9_2 := frozen_of GB 2
              have z9_3 := frozen_of GB 3
              have B9 := put4y (y0 := .int .i64 r0) (y1 := .int .i64 r1) (y2 := .int .i64 r2) (y3 := .slice A1 ms'.length k1) GB
              have Fo9 := (Fr.refl (fun i => i = mb) wB).put4 (b := mb) (fun _ => rfl) (.int .i64 r0) (.int .i64 r1) (.int .i64 r2) (.slice A1 ms'.length k1)
              generalize hwo9 : ((((wB.setCell ⟨mb, 0, none⟩ (.int .i64 r0)).setCell ⟨mb, 1, none⟩ (.int .i64 r1)).setCell ⟨mb, 2, none⟩ (.int .i64 r2)).setCell ⟨mb, 3, none⟩ (.slice A1 ms'.length k1)) = wo9 at B9 Fo9
              obtain ⟨d9_0, d9_1, d9_2, d9_3⟩ := cells4 B9
              have HG9 := Lib.hid B9
              have HM9 := Lib.hid (HRB'.fr Fo9 (fun ad h e => by have := hA1 ad h; have := HAP.out.pm; omega))
              have HQ9 := Lib.hid ((HQ.out.calm FB).fr Fo9 (fun k hk e => HAP.out.ne (e ▸ hk)))
              have HF9 := Lib.hid ((HF.out.step FB nop).step Fo9 (fun i e => by have := HAP.out.pm; omega))
              have hs9 : B0 ≤ wo9.heap.size := by have := FB.size; have := Fo9.size; omega
              have HRZ9 := (HRD.out.fr HF9.out (fun _ _ x => x))
              obtain ⟨m0, m1, m2, m3, m4⟩ := HRZ9.at__ hlt HYY.out
              have HK1 := Lib.hid hk1
              have HA1 := Lib.hid hA1
              have HML' := Lib.hid hml'
              clear G5 FB FAB GB HRB' HRZ9 B9 m0 hF0 HS hk1 hA1 hml' FA0 FA
              have HQP9 : Hid (∀ w', Fr (fun _ => False) wo9 w' → Calls Try.prog 10 #[.pointer (some ⟨q, 0, none⟩), .int .u8 y1, .agg #[.int .i64 y2, .bool y3, .int .i64 y4]] w' fun e w'' => e = .returned (.int .i64 c) ∧ Qu w'' q qs (tri (RE.room r0) (RE.room r1) (RE.room r2)) (fun i => bnd ((i : Int) + 1) ms') ∧ Fr (inQ q qs) wo9 w'') := Lib.hid (fun w' h => (HQP.out w' (HQ9.out.calm h)).mono fun e w'' ⟨h1, h2, h3⟩ => ⟨h1, h2, (h.mono (S' := inQ q qs) (fun _ _ x => x.elim)).trans h3 (fun _ _ x => x)⟩)
              have HS9 : Hid (∀ w', Fr (inQ q qs) wo9 w' → w'.cell? ⟨zb, zo + j * 5 + 1, none⟩ = some (.int .u8 y1) ∧ w'.cell? ⟨zb, zo + j * 5 + 2, none⟩ = some (.int .i64 y2) ∧ w'.cell? ⟨zb, zo + j * 5 + 3, none⟩ = some (.bool y3) ∧ w'.cell? ⟨zb, zo + j * 5 + 4, none⟩ = some (.int .i64 y4)) := Lib.hid (fun w' h => ((HRD.out.fr (HF9.out.step h (fun i hi => (HAP.out.pq i hi).1)) (fun _ _ x => x)).at__ hlt HYY.out).2)
              have hF9 : Fr (fun _ => False) wo9 wo9.drew := (Fr.refl _ _).drew
              go_wp2_with fail
              clear c9_0 z9_0 d9_0 c9_1 z9_1 d9_1 c9_2 z9_2 d9_2 c9_3 z9_3 d9_3 Fo9 hwo9
              clear o0 o1 o2 o3
              clear m1 m2 m3 m4
              go_region_held3 (fun w' => w'.cell? ⟨zb, zo + j * 5 + 1, none⟩ = some (.int .u8 y1) ∧ w'.cell? ⟨zb, zo + j * 5 + 2, none⟩ = some (.int .i64 y2) ∧ w'.cell? ⟨zb, zo + j * 5 + 3, none⟩ = some (.bool y3) ∧ w'.cell? ⟨zb, zo + j * 5 + 4, none⟩ = some (.int .i64 y4))
                (first | exact HS9.out _ (by assumption) | exact HS9.out _ (Fr.mono (S := fun _ => False) (by assumption) (fun _ _ x => x.elim)))
                ((go_at_call 10; refine (HQP9.out _ (by assumption)).mono ?_; rintro e wz ⟨rfl, Qz, F9z⟩))
              have HBD : Hid (Bdy W q qs mb r0 r1 r2 B0 (j + 1) wz) := Lib.hid ⟨ms', A1, k1, Qz, F9z.at_ HG9.out HAP.out.ne, HM9.out.fr F9z (fun ad h hq => by have := HA1.out ad h; have := (HAP.out.pq _ hq).2; omega), HK1.out, HA1.out, by have := HML'.out; omega, HRG'.out, HUQ'.out, HF9.out.step F9z (fun i hi => (HAP.out.pq i hi).1), by have := F9z.size; omega⟩
              clear hF9 HS9 HQP9 Qz F9z HG9 HM9 HQ9 HF9 hs9 HRP HQP HRG' HUQ' HPUT HQ HG HM HF HRG HUQ HA HKK HRZ HML' HK1 HA1
              obtain ⟨ms0, hms0⟩ : ∃ x, x = ms := ⟨_, rfl⟩
              clear hms0
              obtain ⟨ms2, A2, k2, Q, G, M, hk, hA, hl, hrg, hu, F, hs⟩ := HBD.out
              have HQz := Lib.hid Q
              have HGz := Lib.hid G
              have HMz := Lib.hid M
              have HRG := Lib.hid hrg
              have hml : ms2.length ≤ 101 := by omega
              clear Q G M hk hA hl hrg hu F hs
              go_wp2_with fail
              go_loopw [17] (fun i wr => ByIn wz i wr) (fun i _ => 5 - (intOf i).toNat)
              case atStart => exact ⟨0, rfl, Nat.zero_le _, Fr.refl _ _⟩
              case round =>
                obtain ⟨p, rfl, hp, Fp⟩ := hrel
                have HFp := Lib.hid Fp
                clear Fp
                by_cases hp5 : p < 5
                · have hp5' : (p : Int) < 5 := by omega
                  obtain ⟨l, hl⟩ : ∃ l, bnd (p : Int) ms2 = l := ⟨_, rfl⟩
                  have hll : l.length ≤ 101 := by rw [← hl]; have := bnd_len (p : Int) ms2; omega
                  have HPB : Hid (∀ w', Fr (fun _ => False) wr w' → Calls Try.prog 16 #[.pointer (some ⟨q, 0, none⟩), .int .u8 (p : Int)] w' fun e w'' => ∃ A1 k1, e = .returned (.slice A1 l.length k1) ∧ Hid (∀ w3, Fr (fun _ => False) w'' w3 → Reads RE.E w3 A1 l.length l) ∧ Fr (fun _ => False) w' w'' ∧ Fr (fun _ => False) wr w'') := Lib.hid (fun w' h => (Band_all (HQz.out.calm (HFp.out.step h nop)) HRG.out p).mono fun e w'' ⟨A1, k1, h1, h2, h3⟩ => by
                    rw [hl] at h1 h2
                    exact ⟨A1, k1, h1, Lib.hid (fun w3 h4 => h2.fr h4 (fun _ _ x => x)), h3, h.step h3 nop⟩)
                  have HRB : Hid (∀ w', Fr (fun _ => False) wr w' → Calls Try.prog 17 #[.agg #[.int .i64 r0, .int .i64 r1, .int .i64 r2, .slice A2 ms2.length k2], .int .u8 (p : Int)] w' fun e w'' => ∃ A1 k1, e = .returned (.slice A1 l.length k1) ∧ Hid (∀ w3, Fr (fun _ => False) w'' w3 → Reads RE.E w3 A1 l.length l) ∧ Fr (fun _ => False) w' w'' ∧ Fr (fun _ => False) wr w'') := Lib.hid (fun w' h => (rbnd w' r0 r1 r2 A2 ms2.length k2 ms2 (p : Int) (HMz.out.fr (HFp.out.step h nop) (fun _ _ x => x)) (by omega)).mono fun e w'' ⟨A1, k1, h1, h2, h3⟩ => by
                    rw [hl] at h1 h2
                    exact ⟨A1, k1, h1, Lib.hid (fun w3 h4 => h2.fr h4 (fun _ _ x => x)), h3, h.step h3 nop⟩)
                  have HSA : Hid (∀ w' A1 k1 A2 k2, Reads RE.E w' A1 l.length l → Reads RE.E w' A2 l.length l → Fr (fun _ => False) wr w' → Calls Try.prog 15 #[.slice A1 l.length k1, .slice A2 l.length k2] w' fun e w'' => e = .returned (.bool true) ∧ Fr (fun _ => False) wr w'') := Lib.hid (fun w' A1 k1 A2 k2 h1 h2 h => (rsame w' A1 A2 l.length k1 k2 l h1 h2 (by omega)).mono fun e w'' ⟨h3, h4⟩ => ⟨h3, h.step h4 nop⟩)
                  have HS : Hid (∀ w', Fr (fun _ => False) wr w' → w'.cell? ⟨mb, 0, none⟩ = some (.int .i64 r0) ∧ w'.cell? ⟨mb, 1, none⟩ = some (.int .i64 r1) ∧ w'.cell? ⟨mb, 2, none⟩ = some (.int .i64 r2) ∧ w'.cell? ⟨mb, 3, none⟩ = some (.slice A2 ms2.length k2)) := Lib.hid (fun w' h => cells4 ((HFp.out.step h nop).at_ HGz.out (fun x => x)))
                  have hF0 : Fr (fun _ => False) wr wr.drew := (Fr.refl _ _).drew
                  clear hl
                  go_wp2_with fail
                  go_region_held3 (fun w' => w'.cell? ⟨mb, 0, none⟩ = some (.int .i64 r0) ∧ w'.cell? ⟨mb, 1, none⟩ = some (.int .i64 r1) ∧ w'.cell? ⟨mb, 2, none⟩ = some (.int .i64 r2) ∧ w'.cell? ⟨mb, 3, none⟩ = some (.slice A2 ms2.length k2))
                    (first | exact HS.out _ (by assumption))
                    (first
                      | (go_at_call 16; refine (HPB.out _ (by assumption)).mono ?_; rintro e wA ⟨AB, kB, rfl, RB, FB1, FB2⟩)
                      | (go_at_call 17; refine (HRB.out _ (by assumption)).mono ?_; rintro e wB ⟨AR, kR, rfl, RR, FR1, FR2⟩)
                      | (go_at_call 15; refine (HSA.out _ AB kB AR kR (RB.out _ (by first | assumption | exact Fr.refl _ _)) (RR.out _ (by first | assumption | exact Fr.refl _ _)) (by assumption)).mono ?_; rintro e wC ⟨rfl, FC⟩))
                  all_goals
                    have HFC := Lib.hid (HFp.out.step FC nop)
                    clear FC hF0 HS HSA HRB HPB
                    go_wp2
                    go_roundw
                    case rel => exact ⟨p + 1, by go_num, by omega, HFC.out⟩
                    case measure => simp [intOf] <;> omega
                · have hp5' : ¬ (p : Int) < 5 := by omega
                  go_wp2
                  go_roundw
                  case rel => exact ⟨j + 1, by go_num, by omega, HBD.out.calm HFp.out⟩
                  case measure => simp [intOf] <;> omega
            · have G5 := put4y (y0 := .int .i64 r0) (y1 := .int .i64 r1) (y2 := .int .i64 r2) (y3 := .slice A1 ms'.length k1) G4
              have FB := FA.put4 (b := wr.heap.size) (fun h => absurd h (Nat.lt_irrefl _)) (.int .i64 r0) (.int .i64 r1) (.int .i64 r2) (.slice A1 ms'.length k1)
              have htb : wr.heap.size ≤ wr.heap.size := Nat.le_refl _
              have FAB := (Fr.refl (fun i => i = wr.heap.size) wA).put4 (b := wr.heap.size) (fun _ => rfl) (.int .i64 r0) (.int .i64 r1) (.int .i64 r2) (.slice A1 ms'.length k1)
              generalize hwB : (((wA.setCell ⟨wr.heap.size, 0, none⟩ (.int .i64 r0)).setCell ⟨wr.heap.size, 1, none⟩ (.int .i64 r1)).setCell ⟨wr.heap.size, 2, none⟩ (.int .i64 r2)).setCell ⟨wr.heap.size, 3, none⟩ (.slice A1 ms'.length k1) = wB at G5 FB FAB ⊢
              clear hwB K0 K1 K2 K3 z0 z1 z2 z3
              have HRB' : Reads EIt wB A1 ms'.length ms' := by
                refine (RA.out _ (Fr.refl _ _)).move ?_
                intro ad h h0
                have hb := hA2 ad h h0
                have hz : (wr.alloc (.cells #[.int .i64 0, .int .i64 0, .int .i64 0, .slice none 0 0] 41)).heap.size = wr.heap.size + 1 := by simp
                refine FAB.block ad.block (rd_lt (RA.out _ (Fr.refl _ _)) h h0) ?_
                intro e
                rcases hb with h1 | h1
                · omega
                · change (wr.alloc (.cells #[.int .i64 0, .int .i64 0, .int .i64 0, .slice none 0 0] 41)).heap.size ≤ ad.block at h1
                  omega
              obtain ⟨o0, o1, o2, o3⟩ := cells4 G5
              have GB := FB.at_ HG.out (fun x => x)
              obtain ⟨c9_0, c9_1, c9_2, c9_3⟩ := cells4 GB
              have z9_0 := frozen_of GB 0
              have z9_1 := frozen_of GB 1
              have z9_2 := frozen_of GB 2
              have z9_3 := frozen_of GB 3
              have B9 := put4y (y0 := .int .i64 r0) (y1 := .int .i64 r1) (y2 := .int .i64 r2) (y3 := .slice A1 ms'.length k1) GB
              have Fo9 := (Fr.refl (fun i => i = mb) wB).put4 (b := mb) (fun _ => rfl) (.int .i64 r0) (.int .i64 r1) (.int .i64 r2) (.slice A1 ms'.length k1)
              generalize hwo9 : ((((wB.setCell ⟨mb, 0, none⟩ (.int .i64 r0)).setCell ⟨mb, 1, none⟩ (.int .i64 r1)).setCell ⟨mb, 2, none⟩ (.int .i64 r2)).setCell ⟨mb, 3, none⟩ (.slice A1 ms'.length k1)) = wo9 at B9 Fo9
              obtain ⟨d9_0, d9_1, d9_2, d9_3⟩ := cells4 B9
              have HG9 := Lib.hid B9
              have HM9 := Lib.hid (HRB'.fr Fo9 (fun ad h e => by have := hA1 ad h; have := HAP.out.pm; omega))
              have HQ9 := Lib.hid ((HQ.out.calm FB).fr Fo9 (fun k hk e => HAP.out.ne (e ▸ hk)))
              have HF9 := Lib.hid ((HF.out.step FB nop).step Fo9 (fun i e => by have := HAP.out.pm; omega))
              have hs9 : B0 ≤ wo9.heap.size := by have := FB.size; have := Fo9.size; omega
              have HRZ9 := (HRD.out.fr HF9.out (fun _ _ x => x))
              obtain ⟨m0, m1, m2, m3, m4⟩ := HRZ9.at__ hlt HYY.out
              have HK1 := Lib.hid hk1
              have HA1 := Lib.hid hA1
              have HML' := Lib.hid hml'
              clear G5 FB FAB GB HRB' HRZ9 B9 m0 hF0 HS hk1 hA1 hml' FA0 FA
              have HQP9 : Hid (∀ w', Fr (fun _ => False) wo9 w' → Calls Try.prog 10 #[.pointer (some ⟨q, 0, none⟩), .int .u8 y1, .agg #[.int .i64 y2, .bool y3, .int .i64 y4]] w' fun e w'' => e = .returned (.int .i64 c) ∧ Qu w'' q qs (tri (RE.room r0) (RE.room r1) (RE.room r2)) (fun i => bnd ((i : Int) + 1) ms') ∧ Fr (inQ q qs) wo9 w'') := Lib.hid (fun w' h => (HQP.out w' (HQ9.out.calm h)).mono fun e w'' ⟨h1, h2, h3⟩ => ⟨h1, h2, (h.mono (S' := inQ q qs) (fun _ _ x => x.elim)).trans h3 (fun _ _ x => x)⟩)
              have HS9 : Hid (∀ w', Fr (inQ q qs) wo9 w' → w'.cell? ⟨zb, zo + j * 5 + 1, none⟩ = some (.int .u8 y1) ∧ w'.cell? ⟨zb, zo + j * 5 + 2, none⟩ = some (.int .i64 y2) ∧ w'.cell? ⟨zb, zo + j * 5 + 3, none⟩ = some (.bool y3) ∧ w'.cell? ⟨zb, zo + j * 5 + 4, none⟩ = some (.int .i64 y4)) := Lib.hid (fun w' h => ((HRD.out.fr (HF9.out.step h (fun i hi => (HAP.out.pq i hi).1)) (fun _ _ x => x)).at__ hlt HYY.out).2)
              have hF9 : Fr (fun _ => False) wo9 wo9.drew := (Fr.refl _ _).drew
              go_wp2_with fail
              clear c9_0 z9_0 d9_0 c9_1 z9_1 d9_1 c9_2 z9_2 d9_2 c9_3 z9_3 d9_3 Fo9 hwo9
              clear o0 o1 o2 o3
              clear m1 m2 m3 m4
              go_region_held3 (fun w' => w'.cell? ⟨zb, zo + j * 5 + 1, none⟩ = some (.int .u8 y1) ∧ w'.cell? ⟨zb, zo + j * 5 + 2, none⟩ = some (.int .i64 y2) ∧ w'.cell? ⟨zb, zo + j * 5 + 3, none⟩ = some (.bool y3) ∧ w'.cell? ⟨zb, zo + j * 5 + 4, none⟩ = some (.int .i64 y4))
                (first | exact HS9.out _ (by assumption) | exact HS9.out _ (Fr.mono (S := fun _ => False) (by assumption) (fun _ _ x => x.elim)))
                ((go_at_call 10; refine (HQP9.out _ (by assumption)).mono ?_; rintro e wz ⟨rfl, Qz, F9z⟩))
              have HBD : Hid (Bdy W q qs mb r0 r1 r2 B0 (j + 1) wz) := Lib.hid ⟨ms', A1, k1, Qz, F9z.at_ HG9.out HAP.out.ne, HM9.out.fr F9z (fun ad h hq => by have := HA1.out ad h; have := (HAP.out.pq _ hq).2; omega), HK1.out, HA1.out, by have := HML'.out; omega, HRG'.out, HUQ'.out, HF9.out.step F9z (fun i hi => (HAP.out.pq i hi).1), by have := F9z.size; omega⟩
              clear hF9 HS9 HQP9 Qz F9z HG9 HM9 HQ9 HF9 hs9 HRP HQP HRG' HUQ' HPUT HQ HG HM HF HRG HUQ HA HKK HRZ HML' HK1 HA1
              obtain ⟨ms0, hms0⟩ : ∃ x, x = ms := ⟨_, rfl⟩
              clear hms0
              obtain ⟨ms2, A2, k2, Q, G, M, hk, hA, hl, hrg, hu, F, hs⟩ := HBD.out
              have HQz := Lib.hid Q
              have HGz := Lib.hid G
              have HMz := Lib.hid M
              have HRG := Lib.hid hrg
              have hml : ms2.length ≤ 101 := by omega
              clear Q G M hk hA hl hrg hu F hs
              go_wp2_with fail
              go_loopw [17] (fun i wr => ByIn wz i wr) (fun i _ => 5 - (intOf i).toNat)
              case atStart => exact ⟨0, rfl, Nat.zero_le _, Fr.refl _ _⟩
              case round =>
                obtain ⟨p, rfl, hp, Fp⟩ := hrel
                have HFp := Lib.hid Fp
                clear Fp
                by_cases hp5 : p < 5
                · have hp5' : (p : Int) < 5 := by omega
                  obtain ⟨l, hl⟩ : ∃ l, bnd (p : Int) ms2 = l := ⟨_, rfl⟩
                  have hll : l.length ≤ 101 := by rw [← hl]; have := bnd_len (p : Int) ms2; omega
                  have HPB : Hid (∀ w', Fr (fun _ => False) wr w' → Calls Try.prog 16 #[.pointer (some ⟨q, 0, none⟩), .int .u8 (p : Int)] w' fun e w'' => ∃ A1 k1, e = .returned (.slice A1 l.length k1) ∧ Hid (∀ w3, Fr (fun _ => False) w'' w3 → Reads RE.E w3 A1 l.length l) ∧ Fr (fun _ => False) w' w'' ∧ Fr (fun _ => False) wr w'') := Lib.hid (fun w' h => (Band_all (HQz.out.calm (HFp.out.step h nop)) HRG.out p).mono fun e w'' ⟨A1, k1, h1, h2, h3⟩ => by
                    rw [hl] at h1 h2
                    exact ⟨A1, k1, h1, Lib.hid (fun w3 h4 => h2.fr h4 (fun _ _ x => x)), h3, h.step h3 nop⟩)
                  have HRB : Hid (∀ w', Fr (fun _ => False) wr w' → Calls Try.prog 17 #[.agg #[.int .i64 r0, .int .i64 r1, .int .i64 r2, .slice A2 ms2.length k2], .int .u8 (p : Int)] w' fun e w'' => ∃ A1 k1, e = .returned (.slice A1 l.length k1) ∧ Hid (∀ w3, Fr (fun _ => False) w'' w3 → Reads RE.E w3 A1 l.length l) ∧ Fr (fun _ => False) w' w'' ∧ Fr (fun _ => False) wr w'') := Lib.hid (fun w' h => (rbnd w' r0 r1 r2 A2 ms2.length k2 ms2 (p : Int) (HMz.out.fr (HFp.out.step h nop) (fun _ _ x => x)) (by omega)).mono fun e w'' ⟨A1, k1, h1, h2, h3⟩ => by
                    rw [hl] at h1 h2
                    exact ⟨A1, k1, h1, Lib.hid (fun w3 h4 => h2.fr h4 (fun _ _ x => x)), h3, h.step h3 nop⟩)
                  have HSA : Hid (∀ w' A1 k1 A2 k2, Reads RE.E w' A1 l.length l → Reads RE.E w' A2 l.length l → Fr (fun _ => False) wr w' → Calls Try.prog 15 #[.slice A1 l.length k1, .slice A2 l.length k2] w' fun e w'' => e = .returned (.bool true) ∧ Fr (fun _ => False) wr w'') := Lib.hid (fun w' A1 k1 A2 k2 h1 h2 h => (rsame w' A1 A2 l.length k1 k2 l h1 h2 (by omega)).mono fun e w'' ⟨h3, h4⟩ => ⟨h3, h.step h4 nop⟩)
                  have HS : Hid (∀ w', Fr (fun _ => False) wr w' → w'.cell? ⟨mb, 0, none⟩ = some (.int .i64 r0) ∧ w'.cell? ⟨mb, 1, none⟩ = some (.int .i64 r1) ∧ w'.cell? ⟨mb, 2, none⟩ = some (.int .i64 r2) ∧ w'.cell? ⟨mb, 3, none⟩ = some (.slice A2 ms2.length k2)) := Lib.hid (fun w' h => cells4 ((HFp.out.step h nop).at_ HGz.out (fun x => x)))
                  have hF0 : Fr (fun _ => False) wr wr.drew := (Fr.refl _ _).drew
                  clear hl
                  go_wp2_with fail
                  go_region_held3 (fun w' => w'.cell? ⟨mb, 0, none⟩ = some (.int .i64 r0) ∧ w'.cell? ⟨mb, 1, none⟩ = some (.int .i64 r1) ∧ w'.cell? ⟨mb, 2, none⟩ = some (.int .i64 r2) ∧ w'.cell? ⟨mb, 3, none⟩ = some (.slice A2 ms2.length k2))
                    (first | exact HS.out _ (by assumption))
                    (first
                      | (go_at_call 16; refine (HPB.out _ (by assumption)).mono ?_; rintro e wA ⟨AB, kB, rfl, RB, FB1, FB2⟩)
                      | (go_at_call 17; refine (HRB.out _ (by assumption)).mono ?_; rintro e wB ⟨AR, kR, rfl, RR, FR1, FR2⟩)
                      | (go_at_call 15; refine (HSA.out _ AB kB AR kR (RB.out _ (by first | assumption | exact Fr.refl _ _)) (RR.out _ (by first | assumption | exact Fr.refl _ _)) (by assumption)).mono ?_; rintro e wC ⟨rfl, FC⟩))
                  all_goals
                    have HFC := Lib.hid (HFp.out.step FC nop)
                    clear FC hF0 HS HSA HRB HPB
                    go_wp2
                    go_roundw
                    case rel => exact ⟨p + 1, by go_num, by omega, HFC.out⟩
                    case measure => simp [intOf] <;> omega
                · have hp5' : ¬ (p : Int) < 5 := by omega
                  go_wp2
                  go_roundw
                  case rel => exact ⟨j + 1, by go_num, by omega, HBD.out.calm HFp.out⟩
                  case measure => simp [intOf] <;> omega
        · have h3 : ¬ (j : Int) < (n : Int) := by omega
          obtain ⟨ms, A, k, Q, G, M, hk, hA, hl, hrg, hu, F, hs⟩ := HBJ.out
          have HF := Lib.hid F
          have HLN := Lib.hid (fun x : Calm wr => (qlen (Q.calm x.fr) (fun i hi => by have := bnd_len ((i : Int) + 1) ms; omega)).mono fun e w'' (h : e = .returned (.int .i64 ((((fun i : Nat => bnd ((i : Int) + 1) ms) 0).length + ((fun i : Nat => bnd ((i : Int) + 1) ms) 1).length + ((fun i : Nat => bnd ((i : Int) + 1) ms) 2).length : Nat) : Int)) ∧ x.to = w'') => (⟨h.1.trans (by rw [show (((fun i : Nat => bnd ((i : Int) + 1) ms) 0).length + ((fun i : Nat => bnd ((i : Int) + 1) ms) 1).length + ((fun i : Nat => bnd ((i : Int) + 1) ms) 2).length) = ms.length from tot_bnd ms hrg]), by rw [← h.2]; exact Fr.refl _ _⟩ : e = .returned (.int .i64 (ms.length : Int)) ∧ Fr (fun _ => False) x.to w''))
          have m3 : ∀ x : Calm wr, x.to.cell? ⟨mb, 3, none⟩ = some (.slice A ms.length k) := fun x => by rw [cell_of (x.fr.at_ G (fun h => h))]; rfl
          clear Q G M hk hA hl hrg hu F hs
          go_wp2_with fail
          (refine wp_region_calm (by kernel_rfl) (by kernel_rfl) ?_; (repeat (go_big_quiet_step ((go_at_call 12; exact Calm.of (HLN.out _))))); refine wpQuiet_nil ?_; intro _ hwq0; obtain ⟨nq, hwq1⟩ := hwq0; subst hwq1)
          have F9 := HF.out.step nq.fr nop
          go_wp2
          go_ret
          exact ⟨rfl, F9.below⟩
  · have e0 : (100 : Int) < (n : Int) := by omega
    go_enter Try.func6, Try.ntmps6
    go_wp2_with fail
    refine (first_any _).mono ?_
    rintro e w1 ⟨rfl, F1⟩
    go_wp2_with fail
    refine (first_any _).mono ?_
    rintro e w2 ⟨rfl, F2⟩
    have HF := Lib.hid ((HF1.out.step F1 nop).step F2 nop)
    go_wp2
    go_ret
    exact ⟨rfl, HF.out.below⟩

end Go.Proofs.Ytcpapadkdeajaaa
