/- The walk of RingPlaces. -/
import Derived.Test.YtdgbmjpiicpnlaaChecked
import Derived.WalkKit
import Derived.Laws.IdiomCopy
import Derived.Deep.QuietTactic
import Derived.BigQuiet
import Derived.Lib.Hide
import Derived.Deep.RegionWith
import Derived.OpenShut
import Derived.Test.YtdgbmjpiicpnlaaRowX
import Derived.Test.YtdgbmjpiicpnlaaBase
import Derived.Test.YtdgbmjpiicpnlaaRInt
import Derived.Test.YtdgbmjpiicpnlaaRIntB
import Derived.Test.YtdgbmjpiicpnlaaRIntC
import Derived.Test.YtdgbmjpiicpnlaaRIntA
import Derived.Test.YtdgbmjpiicpnlaaLw1
import Derived.Test.YtdgbmjpiicpnlaaLw1b
import Derived.Test.YtdgbmjpiicpnlaaLw1c
namespace Go.Proofs.Ytdgbmjpiicpnlaa
open Go.RowKit
set_option linter.unusedVariables false
set_option linter.unusedSimpArgs false

/-! ### RingPlaces -/
/-- What is forced: the numbers below t, then zs. -/
def forced (t : Nat) (zs : List Int) : List Int := (List.range t).map Int.ofNat ++ zs
theorem forced_length (t : Nat) (zs : List Int) : (forced t zs).length = t + zs.length := by simp [forced]
theorem forced_low {t k : Nat} (zs : List Int) (h : k < t) : (forced t zs).getD k 0 = (k : Int) := by
  simp [forced, List.getD_eq_getElem?_getD, List.getElem?_append, h]
theorem forced_high (t k : Nat) (zs : List Int) : (forced t zs).getD (t + k) 0 = zs.getD k 0 := by
  simp [forced, List.getD_eq_getElem?_getD, List.getElem?_append]
  rw [if_neg (by omega)]

def PlcRel1 (W : World) (b a c t : Nat) (zz : List Int) (i : Value) (wr : World) : Prop :=
  ∃ k : Nat, k ≤ t ∧ i = .int .i64 k ∧ RInt.Rg wr b a c (newest c k zz) ∧ Fr (fun _ => False) W wr
def PlcRel2 (W : World) (b a c t n : Nat) (zz : List Int) (i : Value) (wr : World) : Prop :=
  ∃ k : Nat, k ≤ n ∧ i = .int .i64 k ∧ RInt.Rg wr b a c (newest c (t + k) zz) ∧ Fr (fun _ => False) W wr
def PlcRel3 (w : World) (d : Nat) (i : Value) (wr : World) : Prop :=
  ∃ k : Nat, k ≤ d ∧ i = .int .i64 k ∧ Fr (fun _ => False) w wr

theorem same_refl {xs ys : List Int} (h : xs = ys) : sameB xs ys = true := decide_eq_true h

set_option maxRecDepth 100000 in
set_option maxHeartbeats 4000000 in
theorem RingPlaces_walk (n0 t0 : Int) (A : Option Addr) (n cap : Nat) (zs : List Int) (at0 : Int) (W : World) (w0 : (Lit.int .u8 n0).wf = true) (w1 : (Lit.int .u8 t0).wf = true) (hr : Reads RInt.E W A n zs) (hw : ∀ y, y ∈ zs → (Lit.int .i64 y).wf = true) (hcap : n ≤ cap ∧ cap ≤ maxLen) (w3 : (Lit.int .i64 at0).wf = true) :
    Calls Try.prog 7 #[.int .u8 n0, .int .u8 t0, .slice A n cap, .int .i64 at0] W fun e w' => e = .returned (.bool true) ∧ Below W.heap.size W w' := by
  have hn0 := bounds_u8 w0
  have ht0 := bounds_u8 w1
  clear w0 w1 w3 hcap hw
  by_cases hn : n ≤ 60
  · have e0 : ¬ (60 : Int) < (n : Int) := by omega
    have hlen := hr.1
    obtain ⟨c, hc, hc19⟩ : ∃ c : Nat, n0 % 30 = (c : Int) ∧ c ≤ 29 := ⟨(n0 % 30).toNat, by omega, by omega⟩
    obtain ⟨t, rfl⟩ : ∃ t : Nat, t0 = (t : Int) := ⟨t0.toNat, by omega⟩
    have HC := Lib.hid hc
    obtain ⟨zz, hzz⟩ : ∃ zz, zz = forced t zs := ⟨_, rfl⟩
    have hzl : zz.length = t + n := by rw [hzz, forced_length, hlen]
    have HZ := Lib.hid hzz
    have HZL := Lib.hid hzl
    have HL := Lib.hid hlen
    clear hc hzz hzl hlen
    go_enter Try.func7, Try.ntmps7
    go_wp2_with fail
    refine (fits_any _).mono ?_
    rintro e w0 ⟨rfl, F0⟩
    go_wp2_with fail
    refine (RInt.New w0 (n0 % 30)).mono ?_
    rintro e w1 ⟨b, a, rfl, R1, F1, hb, ha⟩
    rw [show RInt.room (n0 % 30) = c from by have hc := HC.out; unfold RInt.room; omega] at R1
    have hb' : W.heap.size ≤ b := Nat.le_trans F0.size hb
    have ha' : W.heap.size ≤ a := Nat.le_trans F0.size ha
    have F1' := F0.step F1 nop
    clear F0 F1 hb ha
    go_wp2_with fail
    go_loopw [10] (fun i wr => PlcRel1 W b a c t zz i wr) (fun i _ => t - (intOf i).toNat)
    case atStart => exact ⟨0, Nat.zero_le _, rfl, by simpa [newest] using R1, F1'⟩
    case round =>
      clear R1 F1'
      obtain ⟨k, hk, rfl, Rk, Fk⟩ := hrel
      by_cases hlt : k < t
      · have hlt' : (k : Int) < (t : Int) := by omega
        have FC := force_newest Rk (by have := HZL.out; omega)
        rw [HZ.out, forced_low zs hlt, ← HZ.out] at FC
        have HF := Lib.hid FC
        clear FC
        go_wp2_with fail
        refine HF.out.mono ?_
        rintro e w2 ⟨⟨x1, x2, rfl⟩, R2, F2⟩
        have F2' := Fk.step F2 (two hb' ha')
        clear Rk Fk F2 HF
        go_wp2
        go_roundw
        case rel => exact ⟨k + 1, by omega, by simp, R2, F2'⟩
        case measure => simp [intOf]; omega
      · obtain rfl : t = k := by omega
        go_wp2_with fail
        go_loopw [11] (fun i wr => PlcRel2 W b a c t n zz i wr) (fun i _ => n - (intOf i).toNat)
        case atStart => exact ⟨0, Nat.zero_le _, rfl, Rk, Fk⟩
        case round =>
          clear Rk Fk
          obtain ⟨k, hk, rfl, Rk, Fk⟩ := hrel
          by_cases hlt : k < n
          · obtain ⟨ad, rfl, _⟩ := hr.some_of (by omega)
            have cx := (hr.fr Fk (fun _ _ x => x)).int hlt
            have hlt' : (k : Int) < (n : Int) := by omega
            have FC := force_newest Rk (by have := HZL.out; omega)
            rw [show zz.getD (t + k) 0 = zs.getD k 0 from by rw [HZ.out, forced_high]] at FC
            obtain ⟨x, hxk⟩ : ∃ x, x = zs.getD k 0 := ⟨_, rfl⟩
            rw [← hxk] at cx FC
            have HF := Lib.hid FC
            clear hxk FC
            go_wp2_with fail
            refine HF.out.mono ?_
            rintro e w2 ⟨⟨x1, x2, rfl⟩, R2, F2⟩
            have F2' := Fk.step F2 (two hb' ha')
            clear Rk Fk F2 cx HF
            go_wp2
            go_roundw
            case rel => exact ⟨k + 1, by omega, by simp, R2, F2'⟩
            case measure => simp [intOf]; omega
          · obtain rfl : n = k := by omega
            obtain ⟨ys, hys⟩ : ∃ ys, ys = newest c (t + n) zz := ⟨_, rfl⟩
            obtain ⟨d, hd⟩ : ∃ d, d = ys.length := ⟨_, rfl⟩
            have hdc : d ≤ 29 := by rw [hd, hys, newest_length (by have := HZL.out; omega)]; omega
            rw [← hys] at Rk
            have HD := Lib.hid hd.symm
            clear hys hd
            go_wp2_with fail
            refine (RInt.All Rk).mono ?_
            rintro e w2 ⟨v, rfl, O2, F2⟩
            obtain ⟨A2, c2, rfl, Q2, hA2⟩ := O2.reads
            rw [HD.out] at Q2 ⊢
            have F2' := Fk.step F2 nop
            have R2 := Rk.fr F2 (fun x => x) (fun x => x)
            clear Rk Fk F2 O2
            go_wp2_with fail
            go_loopw [13] (fun i wr => PlcRel3 w2 d i wr) (fun i _ => d - (intOf i).toNat)
            case atStart => exact ⟨0, Nat.zero_le _, rfl, Fr.refl _ _⟩
            case round =>
              obtain ⟨k, hk, rfl, Fk⟩ := hrel
              by_cases hlt : k < d
              · obtain ⟨bd, rfl, _⟩ := Q2.some_of (by omega)
                have Rk := R2.fr Fk (fun x => x) (fun x => x)
                have hlt' : (k : Int) < (d : Int) := by omega
                have FC := RInt.At_yes Rk k (by have := HD.out; omega)
                rw [show RInt.E.z = 0 from rfl] at FC
                have cy : ∀ w', Fr (fun _ => False) wr w' → w'.cell? (bd.add k) = some (.int .i64 (ys.getD k 0)) := fun w' F => (Q2.fr (Fk.step F nop) (fun _ _ x => x)).int hlt
                generalize ys.getD k 0 = x at FC cy
                have HF := Lib.hid FC
                clear FC
                have e1 : (x != x) = false := by simp
                go_wp2_with fail
                refine HF.out.mono ?_
                rintro e w3 ⟨rfl, F3⟩
                have cz := cy w3 F3
                have F3' := Fk.step F3 nop
                clear cy Fk F3 HF Rk
                go_wp2
                go_roundw
                case rel => exact ⟨k + 1, by omega, by simp, F3'⟩
                case measure => simp [intOf]; omega
              · obtain rfl : d = k := by omega
                have Rk := R2.fr Fk (fun x => x) (fun x => x)
                have Qk := Q2.fr Fk (fun _ _ x => x)
                have Fk' := F2'.step Fk nop
                clear R2 Q2 F2' Fk
                by_cases hat : 0 ≤ at0 ∧ at0 < (d : Int)
                · obtain ⟨i, rfl⟩ : ∃ i : Nat, at0 = (i : Int) := ⟨at0.toNat, by omega⟩
                  have hid : i < d := by omega
                  have h1 : (0 : Int) ≤ (i : Int) := by omega
                  have h2 : (i : Int) < (d : Int) := by omega
                  clear hat
                  go_wp2_with fail
                  refine (RInt.At_yes Rk i (by have := HD.out; omega)).mono ?_
                  rintro e w3 ⟨rfl, F3⟩
                  have R3 := Rk.fr F3 (fun x => x) (fun x => x)
                  have F3' := Fk'.step F3 nop
                  clear Rk Fk' F3
                  go_wp2_with fail
                  refine (RInt.Set_yes R3 i 5 (by have := HD.out; omega)).mono ?_
                  rintro e w4 ⟨rfl, R4, F4⟩
                  have F4' := F3'.step F4 (two hb' ha')
                  clear R3 F3' F4
                  go_wp2_with fail
                  refine (RInt.All R4).mono ?_
                  rintro e w5 ⟨v5, rfl, O5, F5⟩
                  obtain ⟨A5, c5, rfl, Q5, _⟩ := O5.reads
                  have R5 := R4.fr F5 (fun x => x) (fun x => x)
                  have F5' := F4'.step F5 nop
                  have hl5 : (ys.set i 5).length = d := by rw [List.length_set, HD.out]
                  rw [hl5] at Q5 ⊢
                  clear R4 F4' F5 O5 hl5
                  go_wp2_with fail
                  refine (RInt.All R5).mono ?_
                  rintro e w6 ⟨v6, rfl, O6, F6⟩
                  obtain ⟨A6, c6, rfl, Q6, _⟩ := O6.reads
                  have F6' := F5'.step F6 nop
                  have hl5 : (ys.set i 5).length = d := by rw [List.length_set, HD.out]
                  rw [hl5] at Q6 ⊢
                  obtain ⟨ad6, rfl, _⟩ := Q6.some_of (by omega)
                  have c6 := Q6.int hid
                  rw [getD_set_same 0 5 ys i (by have := HD.out; omega)] at c6
                  clear R5 F5' F6 O6 hl5
                  go_wp2
                  go_ret
                  exact ⟨rfl, F6'.below⟩
                · have hat2 : at0 < 0 ∨ (ys.length : Int) ≤ at0 := by have := HD.out; omega
                  have hat3 : at0 < 0 ∨ (d : Int) ≤ at0 := by omega
                  have HAT := Lib.hid hat2
                  clear hat hat2
                  go_wp2_with fail
                  refine (RInt.At_no Rk at0 HAT.out).mono ?_
                  rintro e w3 ⟨rfl, F3⟩
                  have R3 := Rk.fr F3 (fun x => x) (fun x => x)
                  have Q3 := Qk.fr F3 (fun _ _ x => x)
                  have F3' := Fk'.step F3 nop
                  clear Rk Fk' F3 Qk
                  have HS := Lib.hid (RInt.Set_no R3 at0 5 HAT.out)
                  rcases hat3 with h1 | h1
                  all_goals
                    go_wp2_with fail
                    refine HS.out.mono ?_
                    rintro e w4 ⟨rfl, F4⟩
                    have R4 := R3.fr F4 (fun x => x) (fun x => x)
                    have Q4 := Q3.fr F4 (fun _ _ x => x)
                    have F4' := F3'.step F4 nop
                    clear R3 F3' F4 Q3 HS
                    go_wp2_with fail
                    refine (RInt.All R4).mono ?_
                    rintro e w5 ⟨v5, rfl, O5, F5⟩
                    obtain ⟨A5, c5, rfl, Q5, _⟩ := O5.reads
                    have Q4' := Q4.fr F5 (fun _ _ x => x)
                    have F5' := F4'.step F5 nop
                    rw [HD.out] at Q5 ⊢
                    clear R4 F4' F5 O5 Q4
                    have hs : sameB ys ys = true := same_refl rfl
                    go_wp2_with fail
                    refine (Same _ _ _ _ _ _ _ _ _ Q5 Q4' (by omega) (by omega)).mono ?_
                    rintro e w6 ⟨rfl, m6, rfl⟩
                    go_wp2
                    go_ret
                    exact ⟨rfl, (F5'.drewN m6).below⟩
  · have e0 : (60 : Int) < (n : Int) := by omega
    go_enter Try.func7, Try.ntmps7
    go_wp2_with fail
    refine (fits_any _).mono ?_
    rintro e w0 ⟨rfl, F0⟩
    go_wp2_with fail
    refine (fits_any _).mono ?_
    rintro e w1 ⟨rfl, F1⟩
    go_wp2
    go_ret
    exact ⟨rfl, (F0.step F1 nop).below⟩

end Go.Proofs.Ytdgbmjpiicpnlaa
