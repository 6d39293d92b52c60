/- TCg. -/
import Derived.Test.YtgknbhjhkdohkaaChecked
import Derived.WalkKit
import Derived.Laws.IdiomCopy
import Derived.Deep.QuietTactic
import Derived.BigQuiet
import Derived.Lib.Hide
import Derived.OpenShut
import Derived.StillTailTactics
import Derived.Deep.RegionWith
import Derived.Deep.RegionLaw
import Derived.Deep.Slices
import Derived.Deep.RegionHeld3
import Derived.OwnWalk
import Derived.Deep.DeepCutAuto
import Derived.Deep.CutRange
import Derived.Test.YtgknbhjhkdohkaaBase
import Derived.Test.YtgknbhjhkdohkaaCalm
import Derived.Test.YtgknbhjhkdohkaaCalmT
import Derived.Test.YtgknbhjhkdohkaaCel
import Derived.Test.YtgknbhjhkdohkaaApp
import Derived.Test.YtgknbhjhkdohkaaClk
import Derived.Test.YtgknbhjhkdohkaaRV
import Derived.Test.YtgknbhjhkdohkaaRVB
import Derived.Test.YtgknbhjhkdohkaaRVC
import Derived.Test.YtgknbhjhkdohkaaRVA
import Derived.Test.YtgknbhjhkdohkaaCeS
import Derived.Test.YtgknbhjhkdohkaaCeF
import Derived.Test.YtgknbhjhkdohkaaCeG
import Derived.Test.YtgknbhjhkdohkaaCeN
import Derived.Test.YtgknbhjhkdohkaaCeX
import Derived.Test.YtgknbhjhkdohkaaClkR
import Derived.Test.YtgknbhjhkdohkaaSn
import Derived.Test.YtgknbhjhkdohkaaCpL
import Derived.Test.YtgknbhjhkdohkaaCel9
import Derived.Test.YtgknbhjhkdohkaaTr
import Derived.Test.YtgknbhjhkdohkaaTLa
import Derived.Test.YtgknbhjhkdohkaaTCh
namespace Go.Proofs.Ytgknbhjhkdohkaa
open Go.RowKit
set_option linter.unusedVariables false
set_option linter.unusedSimpArgs false

/-! ### TrendChanges -/
abbrev Tm := Int × Int × Bool
def ETm : El Tm := ⟨fun y => [.int .u8 y.1, .int .i32 y.2.1, .bool y.2.2], 3, fun _ => rfl, by omega, (0, 0, false)⟩
theorem Reads.tm {w : World} {b o n : Nat} {xs : List Tm} (h : Reads ETm w (some ⟨b, o, none⟩) n xs) {k : Nat} (hk : k < n) {y0 y1 y2} (hy : xs.getD k ETm.z = (y0, y1, y2)) :
    w.cell? ⟨b, o + k * 3, none⟩ = some (.int .u8 y0) ∧ w.cell? ⟨b, o + k * 3 + 1, none⟩ = some (.int .i32 y1) ∧ w.cell? ⟨b, o + k * 3 + 2, none⟩ = some (.bool y2) := by
  refine ⟨?_, ?_, ?_⟩
  · have := h.cellj (j := 0) hk (by decide); rw [hy] at this; exact this
  · have := h.cellj (j := 1) hk (by decide); rw [hy] at this; exact this
  · have := h.cellj (j := 2) hk (by decide); rw [hy] at this; exact this
def CiRel (wI : World) (i : Value) (wr : World) : Prop := ∃ k : Int, i = .int .i64 k ∧ 0 ≤ k ∧ k ≤ 3 ∧ Fr (fun _ => False) wI wr
def TpRel (W : World) (s g : Nat) (sh : List (Nat × Nat)) (B0 n : Nat) (m nw i : Value) (wr : World) : Prop :=
  ∃ (j : Nat) (t : Int) (ms : List Sn) (ds : List Kd), nw = .int .i64 t ∧ i = .int .i64 j ∧ j ≤ n ∧ 0 ≤ t ∧ t ≤ 20 * (j : Int) ∧ ms.length ≤ j ∧ St wr s g sh ds ∧ Own ESn 33 wr B0 m ms ∧ Inv sh.length ds ms ∧ SmS ms ∧ Fr (fun _ => False) W wr ∧ B0 ≤ wr.heap.size
set_option maxRecDepth 100000 in
set_option maxHeartbeats 8000000 in
theorem TrendChanges_walk (A : Option Addr) (len cap : Nat) (zs : List Tm) (span late sig : Int) (W : World) (hr : Reads ETm W A len zs)
    (hw : ∀ y, y ∈ zs → (Lit.int .u8 y.1).wf = true ∧ (Lit.int .i32 y.2.1).wf = true ∧ True) (hcap : len ≤ cap ∧ cap ≤ maxLen) (w0 : (Lit.int .u8 span).wf = true) (w1 : (Lit.int .u8 late).wf = true) (w2 : (Lit.int .u8 sig).wf = true) :
    Calls Try.prog 3 #[.slice A len cap, .int .u8 span, .int .u8 late, .int .u8 sig] W fun e w' => e = .returned (.bool true) ∧ Below W.heap.size W w' := by
  clear hcap
  have hs0 := bounds_u8 w0
  have hs1 := bounds_u8 w1
  have hs2 := bounds_u8 w2
  clear w0 w1 w2
  have HL := Lib.hid hr.1
  have HW := Lib.hid hw
  clear hw
  by_cases hn : len ≤ 60
  · have e0 : ¬ (60 : Int) < (len : Int) := by omega
    obtain ⟨x, hx⟩ : ∃ x : Nat, (x : Int) = sig % 2 := ⟨(sig % 2).toNat, by omega⟩
    have hx2 : x < 2 := by omega
    have HX := Lib.hid hx
    clear hx
    go_enter Try.func3, Try.ntmps3
    go_wp2_with fail
    refine (changes_any _).mono ?_
    rintro e w1 ⟨rfl, F1⟩
    go_wp2_with fail
    refine (store_new _ 2).mono ?_
    rintro e w2 ⟨s, g, sh, rfl, hsl, K2, F2, hup0⟩
    have hup : ∀ i, inSt s g sh i → W.heap.size ≤ i ∧ i < w2.heap.size := fun i hi => ⟨Nat.le_trans F1.size (hup0 i hi), by
      rcases hi with rfl | rfl | ⟨j, hj, rfl | rfl⟩
      · exact lt_of K2.sb
      · exact lt_of K2.gb
      · exact (K2.ring j hj).lb
      · exact (K2.ring j hj).la⟩
    rw [show nsig 2 = 2 from by decide] at hsl K2
    have HXS : Hid (x < sh.length) := Lib.hid (by omega)
    rw [← hsl] at K2
    have HUP := Lib.hid hup
    have FW := F1.step F2 nop
    have hB0 : W.heap.size ≤ w2.heap.size := FW.size
    clear hup hup0 F1 F2 hsl
    have HK2 := Lib.hid K2
    have HFW := Lib.hid FW
    clear K2 FW
    go_wp2_with fail
    go_loopw [10, 11, 12] (fun m nw i wr => TpRel W s g sh w2.heap.size len m nw i wr) (fun _ _ i _ => len - (intOf i).toNat)
    case atStart => exact ⟨0, 0, [], _, rfl, rfl, Nat.zero_le _, by omega, by omega, Nat.le_refl _, HK2.out, Own.nil _ _ _ _, Inv.nil _, fun y h => (by cases h), HFW.out, Nat.le_refl _⟩
    case round =>
      clear HK2 HFW
      obtain ⟨j, t, ms, ds, rfl, rfl, hj, ht0, ht1, hmj, K, O, I, hSm, Fj, hBj⟩ := hrel
      have HI := Lib.hid I
      have HSm := Lib.hid hSm
      clear I hSm
      by_cases hlt : j < len
      · have rz := hr.fr Fj (fun _ _ x => x)
        obtain ⟨zb, zo, rfl, hzb⟩ := rz.plain (by omega)
        have hwf := HW.out (zs.getD j ETm.z) (by have := HL.out; simp [List.getD_eq_getElem?_getD, this, hlt])
        obtain ⟨y, hy⟩ : ∃ y, zs.getD j ETm.z = y := ⟨_, rfl⟩
        rw [hy] at hwf
        obtain ⟨y0, y1, y2⟩ := y
        have b0 := bounds_u8 hwf.1
        have b1 := bounds_i32 hwf.2.1
        obtain ⟨l0, l1, l2⟩ := rz.tm hlt hy
        have hlt' : (j : Int) < (len : Int) := by omega
        obtain ⟨t', ht'⟩ : ∃ t', t' = t + y0 % 8 := ⟨_, rfl⟩
        have ht2 : 0 ≤ t' ∧ t' ≤ 20 * ((j + 1 : Nat) : Int) ∧ t' ≤ 2000 := by omega
        have HT := Lib.hid ht'
        have hBT : BigI t' := by unfold BigI; omega
        have HBT := Lib.hid hBT
        have HKj := Lib.hid K
        have HOj := Lib.hid O
        have HFj := Lib.hid Fj
        have rz2 := Lib.hid rz
        have hyy := Lib.hid hy
        clear ht' hwf hy hBT K O Fj rz
        go_wp2_with fail
        rw [← HT.out]
        have HS : Hid (∀ w', Fr (fun _ => False) wr w' → w'.cell? ⟨zb, zo + j * 3 + 1, none⟩ = some (.int .i32 y1) ∧ w'.cell? ⟨zb, zo + j * 3 + 2, none⟩ = some (.bool y2)) := Lib.hid (fun w' h => ⟨((rz2.out.fr h (fun _ _ x => x)).tm hlt hyy.out).2.1, ((rz2.out.fr h (fun _ _ x => x)).tm hlt hyy.out).2.2⟩)
        have hF0 : Fr (fun _ => False) wr wr.drew := (Fr.refl _ _).drew
        have g1 : IntKind.i64.wrap (sig.tmod 2) = (x : Int) := by rw [Int.tmod_eq_emod_of_nonneg hs2.1, ← HX.out]; exact IntWalk.i64_in _ (by omega)
        have g2 : IntKind.i64.wrap y1 = y1 := IntWalk.i64_in _ (by omega)
        go_region_held3 (fun w' => w'.cell? ⟨zb, zo + j * 3 + 1, none⟩ = some (.int .i32 y1) ∧ w'.cell? ⟨zb, zo + j * 3 + 2, none⟩ = some (.bool y2))
          (first | exact HS.out _ (by assumption) | exact HS.out _ (Fr.alloc (by assumption) _))
          (fail)

        try rw [g1, g2]
        clear g1 g2
        have BX : ((wr.alloc (.cells #[.int .i64 (x : Int), .int .u8 0, .int .i64 y1, .bool y2] 30)).drew).heap[wr.heap.size]? = some (.cells #[.int .i64 (x : Int), .int .u8 0, .int .i64 y1, .bool y2] 30 (0, 0)) := alloc_is (w := wr) _ rfl
        have FX : Fr (fun _ => False) wr ((wr.alloc (.cells #[.int .i64 (x : Int), .int .u8 0, .int .i64 y1, .bool y2] 30)).drew) := ((Fr.refl _ wr).alloc _).drew
        generalize (wr.alloc (.cells #[.int .i64 (x : Int), .int .u8 0, .int .i64 y1, .bool y2] 30)).drew = wx at BX FX ⊢
        obtain ⟨q0, q1, q2, q3⟩ := cells4 BX
        have HFX := Lib.hid FX
        have HBX := Lib.hid BX
        clear FX BX hF0 l0 l1 l2
        go_wp2_with fail
        refine (put_x (HKj.out.calm HFX.out) (x := (x : Int)) (i := x) rfl HXS.out t' 0 y1 y2).mono ?_
        rintro e w3 ⟨rfl, K3, F3⟩
        have Bz3 := F3.at_ HBX.out (fun h => by have := HUP.out _ h; omega)
        obtain ⟨v0, v1, v2, v3⟩ := cells4 Bz3
        have HO3 := Lib.hid ((HOj.out.fr HFX.out (fun _ _ x => x)).fr F3 (fun k hk h => by have := HUP.out _ h; have := (HOj.out.blk k hk).1; omega))
        have HF3 := Lib.hid ((HFj.out.step HFX.out nop).step F3 (fun k hk => (HUP.out k hk).1))
        have hs3 : w2.heap.size ≤ w3.heap.size := by have := F3.size; have := HFX.out.size; omega
        have HK3 := Lib.hid K3
        have HI3 := Lib.hid (HI.out.put HKj.out.len HXS.out 0 y1 y2 HBT.out (now := t'))
        have HS3 : Hid (SmS (ms ++ [(t', (x : Int), 0, y1, y2)])) := Lib.hid (fun y hy => by
          rcases List.mem_append.1 hy with h | h
          · exact HSm.out y h
          · rw [List.mem_singleton.1 h]; exact b1)
        clear K3 F3 q0 q1 q2 q3 Bz3
        obtain ⟨i0, hii, hz0, hz1, hz2⟩ := info_parts infoSn
        go_wp2_with (at_builtin; refine append_one ESn 33 rfl _ _ 26 rfl i0 _ 40 Try.underlying26 hii hz0 hz1 hz2 rfl w2.heap.size _ _ rfl (HO3.out.alloc _) ⟨w3.heap.size, 0, none⟩ 1 (t', (x : Int), 0, y1, y2) rfl ?c1 ?c2 ?c3 ?c4 ?c5 ?_)
        case c1 => first | exact lit_cells (W := w3) (cs := [.int .i64 t', .int .i64 x, .int .u8 0, .int .i64 y1, .bool y2]) rfl | exact fun j u hu => hu
        case c2 => intro u hu; simp [ESn] at hu; rcases hu with rfl | rfl | rfl | rfl | rfl <;> rfl
        case c3 => unfold maxLen; omega
        case c4 => omega
        case c5 => first | omega | (simp; omega)
        intro v' w4 hown hgrow
        have F4W := (HF3.out.alloc (.cells #[.int .i64 t', .int .i64 x, .int .u8 0, .int .i64 y1, .bool y2] 33)).grown hgrow (fun k hk => by have := (HO3.out.blk k hk).1; omega)
        have F4S := ((Fr.refl (fun k => w2.heap.size ≤ k) w3).alloc (.cells #[.int .i64 t', .int .i64 x, .int .u8 0, .int .i64 y1, .bool y2] 33)).grownS hgrow (fun k hk => (HO3.out.blk k hk).1)
        have HK4 := Lib.hid (HK3.out.fr F4S (fun k hk h => by have := HUP.out k hk; omega))
        have hs4 : w2.heap.size ≤ w4.heap.size := by have := F4S.size; omega
        have HFW4 := Lib.hid F4W
        have hm4 : (ms ++ [(t', (x : Int), 0, y1, y2)]).length ≤ j + 1 := by rw [List.length_append]; simp; omega
        generalize ms ++ [(t', (x : Int), 0, y1, y2)] = m4 at HI3 hown hm4 HS3
        generalize ds.set x (pt (ds.getD x dz) t' y1 y2) = d4 at HI3 HK4
        obtain ⟨A4, c4, rfl, qq4, _⟩ := hown.reads
        have HQ4 := Lib.hid qq4
        have HO4 := Lib.hid hown
        clear hgrow F4W F4S HK3 HF3 HO3 qq4 hown hii hz0 hz1 hz2 v0 v1 v2 v3
        obtain ⟨at_, hat⟩ : ∃ at_, at_ = t' + late % 20 := ⟨_, rfl⟩
        have HA := Lib.hid hat
        have HBA : Hid (BigI at_) := Lib.hid (by unfold BigI; omega)
        have HBS : Hid (BigI (span % 40)) := Lib.hid (by unfold BigI; omega)
        clear hat
        go_wp2_with fail
        rw [← HA.out]
        go_loopw [15] (fun i wk => CiRel w4 i wk) (fun i _ => (3 - intOf i).toNat)
        case atStart => exact ⟨0, rfl, by omega, by omega, Fr.refl _ _⟩
        case round =>
          obtain ⟨k, rfl, hk0, hk9, Fk⟩ := hrel
          have HFk := Lib.hid Fk
          clear Fk
          by_cases h9 : k < 3
          · obtain ⟨r, hrr⟩ : ∃ r, chv (sn at_ (span % 40)) ((gd k m4).map va) = r := ⟨_, rfl⟩
            obtain ⟨r0, r1⟩ := r
            have HV := Lib.hid hrr
            clear hrr
            go_wp2_with fail
            refine (change_all (HK4.out.calm HFk.out) HI3.out k at_ (span % 40) HBA.out HBS.out (HS3.out.vals k) HV.out).mono ?_
            rintro e wa ⟨rfl, Fa⟩
            have HFa := Lib.hid (HFk.out.step Fa nop)
            clear Fa
            go_wp2_with fail
            refine (rchange_any wa A4 _ _ _ k at_ (span % 40) (HQ4.out.fr HFa.out (fun _ _ x => x)) (by omega) HBA.out HBS.out (HS3.out.vals k) HV.out).mono ?_
            rintro e wb ⟨rfl, Fb⟩
            have HFb := Lib.hid (HFa.out.step Fb nop)
            clear Fb
            go_wp2
            go_roundw
            case rel => exact ⟨k + 1, by go_num, by omega, by omega, HFb.out⟩
            case measure => simp [intOf]; omega
          · have h9' : ¬ k < 3 := h9
            go_wp2
            go_roundw
            case rel => exact ⟨j + 1, t', _, _, by go_num, by go_num, by omega, by omega, by omega, by omega, HK4.out.calm HFk.out, HO4.out.fr HFk.out (fun _ _ x => x), HI3.out, HS3.out, HFW4.out.step HFk.out nop, by have := HFk.out.size; omega⟩
            case measure => simp [intOf]; omega
      · have h3 : ¬ (j : Int) < (len : Int) := by omega
        have HF := Lib.hid Fj
        clear K O Fj
        go_wp2
        go_ret
        exact ⟨rfl, HF.out.below⟩
  · have e0 : (60 : Int) < (len : Int) := by omega
    go_enter Try.func3, Try.ntmps3
    go_wp2_with fail
    refine (changes_any _).mono ?_
    rintro e w1 ⟨rfl, F1⟩
    go_wp2_with fail
    refine (changes_any _).mono ?_
    rintro e w2 ⟨rfl, F2⟩
    have HF := Lib.hid (F1.step F2 nop)
    go_wp2
    go_ret
    exact ⟨rfl, HF.out.below⟩

end Go.Proofs.Ytgknbhjhkdohkaa
