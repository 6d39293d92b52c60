/- CPl. -/
import Derived.Test.YtiahnklhgooigaaChecked
import Derived.WalkKit
import Derived.Laws.IdiomCopy
import Derived.Deep.QuietTactic
import Derived.BigQuiet
import Derived.Lib.Hide
import Derived.OpenShut
import Derived.StillTailTactics
import Derived.Deep.RegionWith
import Derived.Deep.RegionLaw
import Derived.Deep.Slices
import Derived.Deep.RegionHeld3
import Derived.OwnWalk
import Derived.Deep.DeepCutAuto
import Derived.Deep.CutRange
import Derived.Test.YtiahnklhgooigaaBase
import Derived.Test.YtiahnklhgooigaaCalm
import Derived.Test.YtiahnklhgooigaaCalmT
import Derived.Test.YtiahnklhgooigaaCel
import Derived.Test.YtiahnklhgooigaaApp
import Derived.Test.YtiahnklhgooigaaClk
import Derived.Test.YtiahnklhgooigaaRV
import Derived.Test.YtiahnklhgooigaaRVB
import Derived.Test.YtiahnklhgooigaaRVC
import Derived.Test.YtiahnklhgooigaaRVA
import Derived.Test.YtiahnklhgooigaaCeS
import Derived.Test.YtiahnklhgooigaaCeF
import Derived.Test.YtiahnklhgooigaaCeG
import Derived.Test.YtiahnklhgooigaaCeN
import Derived.Test.YtiahnklhgooigaaCeX
import Derived.Test.YtiahnklhgooigaaClkR
import Derived.Test.YtiahnklhgooigaaSn
import Derived.Test.YtiahnklhgooigaaSn2
import Derived.Test.YtiahnklhgooigaaCpL
import Derived.Test.YtiahnklhgooigaaCLa
namespace Go.Proofs.Ytiahnklhgooigaa
open Go.RowKit
set_option linter.unusedVariables false
set_option linter.unusedSimpArgs false

/-! ### CellPlays -/
abbrev Cm := Int × Int × Int × Int × Bool
def ECm : El Cm := ⟨fun y => [.int .u8 y.1, .int .i64 y.2.1, .int .u8 y.2.2.1, .int .i64 y.2.2.2.1, .bool y.2.2.2.2], 5, fun _ => rfl, by omega, (0, 0, 0, 0, false)⟩
theorem Reads.cm {w : World} {b o n : Nat} {xs : List Cm} (h : Reads ECm w (some ⟨b, o, none⟩) n xs) {k : Nat} (hk : k < n) {y0 y1 y2 y3 y4} (hy : xs.getD k ECm.z = (y0, y1, y2, y3, y4)) :
    w.cell? ⟨b, o + k * 5, none⟩ = some (.int .u8 y0) ∧ w.cell? ⟨b, o + k * 5 + 1, none⟩ = some (.int .i64 y1) ∧ w.cell? ⟨b, o + k * 5 + 2, none⟩ = some (.int .u8 y2) ∧ w.cell? ⟨b, o + k * 5 + 3, none⟩ = some (.int .i64 y3) ∧ w.cell? ⟨b, o + k * 5 + 4, none⟩ = some (.bool y4) := by
  refine ⟨?_, ?_, ?_, ?_, ?_⟩
  · have := h.cellj (j := 0) hk (by decide); rw [hy] at this; exact this
  · have := h.cellj (j := 1) hk (by decide); rw [hy] at this; exact this
  · have := h.cellj (j := 2) hk (by decide); rw [hy] at this; exact this
  · have := h.cellj (j := 3) hk (by decide); rw [hy] at this; exact this
  · have := h.cellj (j := 4) hk (by decide); rw [hy] at this; exact this
theorem u64_bounds {x y : Int} (h : IntKind.u64.wrap x = y) : 0 ≤ y ∧ y ≤ 18446744073709551615 := by
  subst h
  have e : IntKind.u64.wrap x = x % 18446744073709551616 := by simp [IntKind.wrap, IntKind.signed, IntKind.bits]
  rw [e]; omega
def CiRel (wI : World) (i : Value) (wr : World) : Prop := ∃ k : Int, i = .int .i64 k ∧ -1 ≤ k ∧ k ≤ 9 ∧ Fr (fun _ => False) wI wr
def CpRel (W : World) (s g : Nat) (sh : List (Nat × Nat)) (B0 n : Nat) (m nw i : Value) (wr : World) : Prop :=
  ∃ (j : Nat) (t : Int) (ms : List Sn) (ds : List Kd), nw = .int .i64 t ∧ i = .int .i64 j ∧ j ≤ n ∧ 0 ≤ t ∧ t ≤ 20 * (j : Int) ∧ ms.length ≤ j ∧ St wr s g sh ds ∧ Own ESn 39 wr B0 m ms ∧ Inv sh.length ds ms ∧ Fr (fun _ => False) W wr ∧ B0 ≤ wr.heap.size
set_option maxRecDepth 100000 in
set_option maxHeartbeats 8000000 in
theorem CellPlays_walk (n : Int) (A : Option Addr) (len cap : Nat) (zs : List Cm) (from_ : Int) (near : Bool) (W : World) (w0 : (Lit.int .i64 n).wf = true) (hr : Reads ECm W A len zs)
    (hw : ∀ y, y ∈ zs → (Lit.int .u8 y.1).wf = true ∧ (Lit.int .i64 y.2.1).wf = true ∧ (Lit.int .u8 y.2.2.1).wf = true ∧ (Lit.int .i64 y.2.2.2.1).wf = true ∧ True) (hcap : len ≤ cap ∧ cap ≤ maxLen) (w2 : (Lit.int .i64 from_).wf = true) :
    Calls Try.prog 4 #[.int .i64 n, .slice A len cap, .int .i64 from_, .bool near] W fun e w' => e = .returned (.bool true) ∧ Below W.heap.size W w' := by
  clear w0 hcap
  have hfr := bounds_i64 w2
  clear w2
  have hm0 : -40 < from_.tmod 40 := by have := Int.lt_tmod_of_pos from_ (show (0:Int) < 40 by omega); omega
  have hm1 : from_.tmod 40 < 40 := Int.tmod_lt_of_pos _ (by omega)
  have HL := Lib.hid hr.1
  have HW := Lib.hid hw
  clear hw
  by_cases hn : len ≤ 80
  · have e0 : ¬ (80 : Int) < (len : Int) := by omega
    obtain ⟨N, hN⟩ : ∃ N, N = nsig n := ⟨_, rfl⟩
    have hcr : n < 0 ∧ N = 0 ∨ 8 < n ∧ N = 8 ∨ 0 ≤ n ∧ n ≤ 8 ∧ n = (N : Int) := by rw [hN]; unfold nsig; omega
    have HNs := Lib.hid hN.symm
    clear hN
    go_enter Try.func4, Try.ntmps4
    go_wp2_with fail
    refine (keeps_any _).mono ?_
    rintro e w1 ⟨rfl, F1⟩
    go_wp2_with fail
    refine (store_new _ n).mono ?_
    rintro e w2 ⟨s, g, sh, rfl, hsl, K2, F2, hup0⟩
    have hup : ∀ i, inSt s g sh i → W.heap.size ≤ i ∧ i < w2.heap.size := fun i hi => ⟨Nat.le_trans F1.size (hup0 i hi), by
      rcases hi with rfl | rfl | ⟨j, hj, rfl | rfl⟩
      · exact lt_of K2.sb
      · exact lt_of K2.gb
      · exact (K2.ring j hj).lb
      · exact (K2.ring j hj).la⟩
    rw [HNs.out] at hsl K2
    rw [← hsl] at K2 hcr
    have HUP := Lib.hid hup
    have FW := F1.step F2 nop
    have hB0 : W.heap.size ≤ w2.heap.size := FW.size
    have hN8 := K2.n8
    clear hup hup0 F1 F2 hsl HNs
    have HK2 := Lib.hid K2
    have HFW := Lib.hid FW
    clear K2 FW
    go_upto_if 37 with (fail)
    go_cut [0] (fun s0 wx => s0 = .int .i64 (max n 0) ∧ wx = w2)
    case first =>
      by_cases h0 : n < 0
      · go_wp2_with fail
        go_meet
        case rel => exact ⟨by rw [show max n 0 = 0 from by omega], rfl⟩
      · go_wp2_with fail
        go_meet
        case rel => exact ⟨by rw [show max n 0 = n from by omega], rfl⟩
    case rest =>
    obtain ⟨rfl, hwx⟩ := hcut
    obtain rfl := hwx.symm
    obtain ⟨n2, hn2⟩ : ∃ n2, max n 0 = n2 := ⟨_, rfl⟩
    rw [hn2]
    go_upto_if 39 with (fail)
    go_cut [0] (fun s0 wx => s0 = .int .i64 sh.length ∧ wx = w2)
    case first =>
      by_cases h0 : 8 < n2
      · go_wp2_with fail
        go_meet
        case rel => exact ⟨by rw [show (sh.length : Int) = 8 from by omega], rfl⟩
      · go_wp2_with fail
        go_meet
        case rel => exact ⟨by rw [show (sh.length : Int) = n2 from by omega], rfl⟩
    case rest =>
    obtain ⟨rfl, hwx⟩ := hcut
    obtain rfl := hwx.symm
    clear hn2 hcr
    go_wp2_with fail
    go_loopw [10, 11, 12] (fun m nw i wr => CpRel W s g sh w2.heap.size len m nw i wr) (fun _ _ i _ => len - (intOf i).toNat)
    case atStart => exact ⟨0, 0, [], _, rfl, rfl, Nat.zero_le _, by omega, by omega, Nat.le_refl _, HK2.out, Own.nil _ _ _ _, Inv.nil _, HFW.out, Nat.le_refl _⟩
    case round =>
      clear HK2 HFW
      obtain ⟨j, t, ms, ds, rfl, rfl, hj, ht0, ht1, hmj, K, O, I, Fj, hBj⟩ := hrel
      have HI := Lib.hid I
      clear I
      by_cases hlt : j < len
      · have rz := hr.fr Fj (fun _ _ x => x)
        obtain ⟨zb, zo, rfl, hzb⟩ := rz.plain (by omega)
        have hwf := HW.out (zs.getD j ECm.z) (by have := HL.out; simp [List.getD_eq_getElem?_getD, this, hlt])
        obtain ⟨y, hy⟩ : ∃ y, zs.getD j ECm.z = y := ⟨_, rfl⟩
        rw [hy] at hwf
        obtain ⟨y0, y1, y2, y3, y4⟩ := y
        have b0 := bounds_u8 hwf.1
        have b1 := bounds_i64 hwf.2.1
        obtain ⟨l0, l1, l2, l3, l4⟩ := rz.cm hlt hy
        have hlt' : (j : Int) < (len : Int) := by omega
        obtain ⟨t', ht'⟩ : ∃ t', t' = t + y0 % 20 := ⟨_, rfl⟩
        have ht2 : 0 ≤ t' ∧ t' ≤ 20 * ((j + 1 : Nat) : Int) ∧ t' ≤ 2000 := by omega
        have HT := Lib.hid ht'
        have hBT : BigI t' := by unfold BigI; omega
        have HBT := Lib.hid hBT
        clear ht' hwf hy hBT

        have Bz1 : (wr.alloc (.cells #[.int .i64 0, .int .u8 0, .int .i64 0, .bool false] 27)).heap[wr.heap.size]? = some (.cells #[.int .i64 0, .int .u8 0, .int .i64 0, .bool false] 27 (0, 0)) := alloc_is _ rfl
        have Fz1 := (Fr.refl (fun _ => False) wr).alloc (.cells #[.int .i64 0, .int .u8 0, .int .i64 0, .bool false] 27)
        generalize hwm1 : wr.alloc (.cells #[.int .i64 0, .int .u8 0, .int .i64 0, .bool false] 27) = wm1 at Bz1 Fz1
        obtain ⟨c1_0, c1_1, c1_2, c1_3⟩ := cells4 Bz1
        have z1_0 := frozen_of Bz1 0
        have z1_1 := frozen_of Bz1 1
        have z1_2 := frozen_of Bz1 2
        have z1_3 := frozen_of Bz1 3
        have B1 := put4y (y0 := .int .i64 y1) (y1 := .int .u8 y2) (y2 := .int .i64 y3) (y3 := .bool y4) Bz1
        have Fo1 := (Fr.refl (fun i => i = wr.heap.size) wm1).put4 (b := wr.heap.size) (fun _ => rfl) (.int .i64 y1) (.int .u8 y2) (.int .i64 y3) (.bool y4)
        generalize hwo1 : ((((wm1.setCell ⟨wr.heap.size, 0, none⟩ (.int .i64 y1)).setCell ⟨wr.heap.size, 1, none⟩ (.int .u8 y2)).setCell ⟨wr.heap.size, 2, none⟩ (.int .i64 y3)).setCell ⟨wr.heap.size, 3, none⟩ (.bool y4)) = wo1 at B1 Fo1
        have FF1 := Fz1.trans Fo1 (fun i hi (h : i = wr.heap.size) => by omega)
        obtain ⟨d1_0, d1_1, d1_2, d1_3⟩ := cells4 B1
        have HB1 := Lib.hid B1
        have HF1 := Lib.hid FF1
        have HKj := Lib.hid K
        have HOj := Lib.hid O
        have HFj := Lib.hid Fj
        clear K O Fj rz

        go_upto_if 60 with (fail)
        rw [← HT.out]
        go_cut [] (fun wx => ∃ sv : Int, (-9223372036854775808 ≤ sv ∧ sv ≤ 9223372036854775807) ∧ wx.heap[wr.heap.size]? = some (.cells #[.int .i64 sv, .int .u8 y2, .int .i64 y3, .bool y4] 27 (0, 0)) ∧ Fr (fun _ => False) wr wx)
        case first =>
          cases near
          · go_wp2_with fail
            go_meet
            case rel => exact ⟨y1, ⟨by omega, by omega⟩, HB1.out, HF1.out⟩
          · obtain ⟨yu, hyu⟩ : ∃ yu, IntKind.u64.wrap y1 = yu := ⟨_, rfl⟩
            have hyu0 : 0 ≤ yu ∧ yu ≤ 18446744073709551615 := u64_bounds hyu
            have f1_0 := frozen_of HB1.out 0
            have B2 := set_at HB1.out 0 (.int .i64 (yu % 4))
            have F2 := (Fr.refl (fun i => i = wr.heap.size) wo1).setCell (p := ⟨wr.heap.size, 0, none⟩) (fun _ => rfl) (.int .i64 (yu % 4))
            generalize hwo2 : wo1.setCell ⟨wr.heap.size, 0, none⟩ (.int .i64 (yu % 4)) = wo2 at B2 F2
            have HF2 := Lib.hid (HF1.out.trans F2 (fun i hi (h : i = wr.heap.size) => by omega))
            have HB2 := Lib.hid B2
            clear B2 F2
            go_wp2_with fail
            go_meet
            case rel => exact ⟨yu % 4, ⟨by omega, by omega⟩, HB2.out, HF2.out⟩
        case rest =>
        obtain ⟨sv, hsv, Bz, FZ⟩ := hcut
        generalize hwz : wc = wz at Bz FZ ⊢
        clear hwz
        obtain ⟨q0, q1, q2, q3⟩ := cells4 Bz
        have HBz := Lib.hid Bz
        have HFZ := Lib.hid FZ
        clear Bz FZ
        go_upto_region 17 with (fail)
        go_cut [14] (fun s14 wx => s14 = .bool (decide (0 ≤ sv ∧ sv < (sh.length : Int))) ∧ wx = wz)
        case first =>
          by_cases ti0 : 0 ≤ sv
          · by_cases ti1 : sv < (sh.length : Int)
            · go_wp2_with fail
              go_meet
              case rel => exact ⟨by rw [decide_eq_true ⟨ti0, ti1⟩], rfl⟩
            · go_wp2_with fail
              go_meet
              case rel => exact ⟨by rw [decide_eq_false (by omega)], rfl⟩
          · go_wp2_with fail
            go_meet
            case rel => exact ⟨by rw [decide_eq_false (by omega)], rfl⟩
        case rest =>
        obtain ⟨hs14, hwx⟩ := hcut
        obtain rfl := hwx.symm
        obtain ⟨okb, hok⟩ : ∃ okb, decide (0 ≤ sv ∧ sv < (sh.length : Int)) = okb := ⟨_, rfl⟩
        rw [hok] at hs14
        obtain rfl := hs14.symm
        have HOK := Lib.hid hok
        clear hok
        go_wp2_with fail
        refine (put_all (HKj.out.calm HFZ.out) HI.out sv t' y2 y3 y4 HBT.out HOK.out).mono ?_
        rintro e w3 ⟨rfl, d3, K3, I3, F3⟩
        have Bz3 := F3.at_ HBz.out (fun h => by have := HUP.out _ h; omega)
        obtain ⟨v0, v1, v2, v3⟩ := cells4 Bz3
        have HO3 := Lib.hid ((HOj.out.fr HFZ.out (fun _ _ x => x)).fr F3 (fun k hk h => by have := HUP.out _ h; have := (HOj.out.blk k hk).1; omega))
        have HF3 := Lib.hid ((HFj.out.step HFZ.out nop).step F3 (fun k hk => (HUP.out k hk).1))
        have hs3 : w2.heap.size ≤ w3.heap.size := by have := F3.size; have := HFZ.out.size; omega
        have HK3 := Lib.hid K3
        have HI3 := Lib.hid I3
        clear K3 F3 q0 q1 q2 q3 I3 Bz3
        go_upto_if 82 with (fail)
        go_cut [10] (fun s10 wx => ∃ m4 : List Sn, Own ESn 39 wx w2.heap.size s10 m4 ∧ m4.length ≤ j + 1 ∧ Inv sh.length d3 m4 ∧ St wx s g sh d3 ∧ Fr (fun _ => False) W wx ∧ w2.heap.size ≤ wx.heap.size)
        case first =>
          cases okb
          · go_wp2_with fail
            go_meet
            case rel => exact ⟨ms, HO3.out, by omega, HI3.out, HK3.out, HF3.out, hs3⟩
          · obtain ⟨i0, hii, hz0, hz1, hz2⟩ := info_parts infoSn
            go_wp2_with (at_builtin; refine append_one ESn 39 rfl _ _ 34 rfl i0 _ 40 Try.underlying34 hii hz0 hz1 hz2 rfl w2.heap.size _ _ rfl (HO3.out.alloc _) ⟨w3.heap.size, 0, none⟩ 1 (t', sv, y2, y3, y4) rfl ?c1 ?c2 ?c3 ?c4 ?c5 ?_)
            case c1 => exact fun j u hu => hu
            case c2 => intro u hu; simp [ESn] at hu; rcases hu with rfl | rfl | rfl | rfl | rfl <;> rfl
            case c3 => unfold maxLen; omega
            case c4 => omega
            case c5 => omega
            intro v' w4 hown hgrow
            have F4W := (HF3.out.alloc (.cells #[.int .i64 t', .int .i64 sv, .int .u8 y2, .int .i64 y3, .bool y4] 39)).grown hgrow (fun k hk => by have := (HO3.out.blk k hk).1; omega)
            have F4S := ((Fr.refl (fun k => w2.heap.size ≤ k) w3).alloc (.cells #[.int .i64 t', .int .i64 sv, .int .u8 y2, .int .i64 y3, .bool y4] 39)).grownS hgrow (fun k hk => (HO3.out.blk k hk).1)
            have HK4 := Lib.hid (HK3.out.fr F4S (fun k hk h => by have := HUP.out k hk; omega))
            have hs4 : w2.heap.size ≤ w4.heap.size := by have := F4S.size; omega
            have HFW4 := Lib.hid F4W
            have hm4 : (ms ++ [(t', sv, y2, y3, y4)]).length ≤ j + 1 := by rw [List.length_append]; simp; omega
            have HO4 := Lib.hid hown
            clear hgrow F4W F4S hii hz0 hz1 hz2 hown
            go_wp2_with fail
            go_meet
            case rel => exact ⟨_, HO4.out, hm4, HI3.out, HK4.out, HFW4.out, hs4⟩
        case rest =>
        obtain ⟨m4, O4, hm4, I4, K4, FW4, hs4⟩ := hcut
        generalize hw4 : wc = w4 at O4 K4 FW4 hs4 ⊢
        clear hw4
        obtain ⟨A4, c4, rfl, qq4, _⟩ := O4.reads
        have HQ4 := Lib.hid qq4
        have HO4 := Lib.hid O4
        have HI4 := Lib.hid I4
        have HK4 := Lib.hid K4
        have HFW4 := Lib.hid FW4
        clear O4 I4 K4 FW4 qq4 HK3 HF3 HO3 HI3 v0 v1 v2 v3
        go_wp2_with fail
        go_loopw [15] (fun i wk => CiRel w4 i wk) (fun i _ => (9 - intOf i).toNat)
        case atStart => exact ⟨-1, rfl, by omega, by omega, Fr.refl _ _⟩
        case round =>
          obtain ⟨k, rfl, hk0, hk9, Fk⟩ := hrel
          have HFk := Lib.hid Fk
          clear Fk
          by_cases h9 : k < 9
          · obtain ⟨r, hrr⟩ : ∃ r, vl ((gd k m4).map va) = r := ⟨_, rfl⟩
            obtain ⟨r0, r1, r2⟩ := r
            have HV := Lib.hid hrr
            clear hrr
            obtain ⟨f, hf⟩ : ∃ f, t' - from_.tmod 40 = f := ⟨_, rfl⟩
            have HFF := Lib.hid hf
            clear hf
            obtain ⟨p, hpp⟩ : ∃ p, od f ((gd k m4).map va) = p := ⟨_, rfl⟩
            obtain ⟨p0, p1⟩ := p
            have HP := Lib.hid hpp
            clear hpp
            obtain ⟨u, hu⟩ : ∃ u, sn (t' + 5) (lt_ k m4).1 = u := ⟨_, rfl⟩
            have HU := Lib.hid hu
            clear hu
            obtain ⟨bb, hbb⟩ : ∃ bb, (lt_ k m4).2 = bb := ⟨_, rfl⟩
            have HBB := Lib.hid hbb
            clear hbb
            obtain ⟨kk, hkk⟩ : ∃ kk : Int, ((((gd k m4).map va).length : Nat) : Int) = kk := ⟨_, rfl⟩
            have HKK := Lib.hid hkk
            clear hkk
            have HB5 : Hid (BigI (t' + 5)) := Lib.hid (by unfold BigI; omega)
            go_wp2_with fail
            refine (value_all (HK4.out.calm HFk.out) HI4.out k HV.out).mono ?_
            rintro e wa ⟨rfl, Fa⟩
            have HFa := Lib.hid (HFk.out.step Fa nop)
            clear Fa
            go_wp2_with fail
            refine (rvalue_r wa A4 _ _ _ k (HQ4.out.fr HFa.out (fun _ _ x => x)) (by omega) HV.out).mono ?_
            rintro e wb ⟨rfl, Fb⟩
            have HFb := Lib.hid (HFa.out.step Fb nop)
            clear Fb
            go_wp2_with fail
            rw [HFF.out]
            refine (oldest_all (HK4.out.calm HFb.out) HI4.out k f HP.out).mono ?_
            rintro e wc ⟨rfl, Fc⟩
            have HFc := Lib.hid (HFb.out.step Fc nop)
            clear Fc
            go_wp2_with fail
            rw [HFF.out]
            refine (roldest_r wc A4 _ _ _ k f (HQ4.out.fr HFc.out (fun _ _ x => x)) (by omega) HP.out).mono ?_
            rintro e wd ⟨rfl, Fd⟩
            have HFd := Lib.hid (HFc.out.step Fd nop)
            clear Fd
            go_wp2_with fail
            refine (quiet_all (HK4.out.calm HFd.out) HI4.out k (t' + 5) HB5.out HU.out).mono ?_
            rintro e we ⟨rfl, Fe⟩
            have HFe := Lib.hid (HFd.out.step Fe nop)
            clear Fe
            go_wp2_with fail
            refine (rquiet_any we A4 _ _ _ k (t' + 5) (HQ4.out.fr HFe.out (fun _ _ x => x)) (by omega) HB5.out (HI4.out.big k) HU.out).mono ?_
            rintro e wf ⟨rfl, Ff⟩
            have HFf := Lib.hid (HFe.out.step Ff nop)
            clear Ff
            go_wp2_with fail
            refine (bad_all (HK4.out.calm HFf.out) HI4.out k HBB.out).mono ?_
            rintro e wg ⟨rfl, Fg⟩
            have HFg := Lib.hid (HFf.out.step Fg nop)
            clear Fg
            go_wp2_with fail
            refine (rbad_any wg A4 _ _ _ k (HQ4.out.fr HFg.out (fun _ _ x => x)) (by omega) HBB.out).mono ?_
            rintro e wh ⟨rfl, Fh⟩
            have HFh := Lib.hid (HFg.out.step Fh nop)
            clear Fh
            go_wp2_with fail
            refine (kept_all (HK4.out.calm HFh.out) HI4.out k HKK.out).mono ?_
            rintro e wi ⟨rfl, Fi⟩
            have HFi := Lib.hid (HFh.out.step Fi nop)
            clear Fi
            go_wp2_with fail
            refine (rkept_any wi A4 _ _ _ k (HQ4.out.fr HFi.out (fun _ _ x => x)) (by omega) HKK.out).mono ?_
            rintro e wj ⟨rfl, Fj⟩
            have HFjj := Lib.hid (HFi.out.step Fj nop)
            clear Fj
            go_wp2
            go_roundw
            case rel => exact ⟨k + 1, by go_num, by omega, by omega, HFjj.out⟩
            case measure => simp [intOf]; omega
          · have h9' : ¬ k < 9 := h9
            go_wp2
            go_roundw
            case rel => exact ⟨j + 1, t', _, _, by go_num, by go_num, by omega, by omega, by omega, by omega, HK4.out.calm HFk.out, HO4.out.fr HFk.out (fun _ _ x => x), HI4.out, HFW4.out.step HFk.out nop, by have := HFk.out.size; omega⟩
            case measure => simp [intOf]; omega
      · have h3 : ¬ (j : Int) < (len : Int) := by omega
        have HF := Lib.hid Fj
        clear K O Fj
        go_wp2
        go_ret
        exact ⟨rfl, HF.out.below⟩
  · have e0 : (80 : Int) < (len : Int) := by omega
    go_enter Try.func4, Try.ntmps4
    go_wp2_with fail
    refine (keeps_any _).mono ?_
    rintro e w1 ⟨rfl, F1⟩
    go_wp2_with fail
    refine (keeps_any _).mono ?_
    rintro e w2 ⟨rfl, F2⟩
    have HF := Lib.hid (F1.step F2 nop)
    go_wp2
    go_ret
    exact ⟨rfl, HF.out.below⟩

end Go.Proofs.Ytiahnklhgooigaa
