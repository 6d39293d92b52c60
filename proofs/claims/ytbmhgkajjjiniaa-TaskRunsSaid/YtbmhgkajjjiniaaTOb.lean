/- TOb. -/
import Derived.Test.YtbmhgkajjjiniaaChecked
import Derived.WalkKit
import Derived.Laws.IdiomCopy
import Derived.Deep.QuietTactic
import Derived.BigQuiet
import Derived.Lib.Hide
import Derived.OpenShut
import Derived.StillTailTactics
import Derived.Deep.RegionWith
import Derived.Deep.RegionLaw
import Derived.Deep.Slices
import Derived.Deep.RegionHeld3
import Derived.OwnWalk
import Derived.Test.YtbmhgkajjjiniaaBase
import Derived.Test.YtbmhgkajjjiniaaCalm
import Derived.Test.YtbmhgkajjjiniaaCalmT
import Derived.Test.YtbmhgkajjjiniaaCel
import Derived.Test.YtbmhgkajjjiniaaApp
import Derived.Test.YtbmhgkajjjiniaaClk
import Derived.Test.YtbmhgkajjjiniaaRV
import Derived.Test.YtbmhgkajjjiniaaRVB
import Derived.Test.YtbmhgkajjjiniaaRVC
import Derived.Test.YtbmhgkajjjiniaaRVA
import Derived.Test.YtbmhgkajjjiniaaCeS
import Derived.Test.YtbmhgkajjjiniaaCeF
import Derived.Test.YtbmhgkajjjiniaaCeG
import Derived.Test.YtbmhgkajjjiniaaCeN
import Derived.Test.YtbmhgkajjjiniaaCeX
import Derived.Test.YtbmhgkajjjiniaaClkR
import Derived.Test.YtbmhgkajjjiniaaSn
import Derived.Test.YtbmhgkajjjiniaaSn2
import Derived.Test.YtbmhgkajjjiniaaCpL
import Derived.Test.YtbmhgkajjjiniaaCel9
import Derived.Test.YtbmhgkajjjiniaaTr
import Derived.Test.YtbmhgkajjjiniaaGCr
import Derived.Test.YtbmhgkajjjiniaaTCh
import Derived.Test.YtbmhgkajjjiniaaGSt
namespace Go.Proofs.Ytbmhgkajjjiniaa
open Go.RowKit
set_option linter.unusedVariables false
set_option linter.unusedSimpArgs false

/-! ### Observe -/
def ob (k sg_ lim bk sp : Int) (ms : List Sn) (now : Int) : Bool × Bool :=
  if k = 1 ∨ k = 2 then (if (vl ((gd sg_ ms).map va)).2.2 = true ∧ (lt_ sg_ ms).2 = false then gcr k lim bk (vl ((gd sg_ ms).map va)).1 else (false, false))
  else if k = 3 ∨ k = 4 then (if (chv (sn now sp) ((gd sg_ ms).map va)).2 = true then crs k lim bk (chv (sn now sp) ((gd sg_ ms).map va)).1 else (false, true))
  else if k = 5 then (decide (sp ≤ sn now (lt_ sg_ ms).1), !decide (sp ≤ sn now (lt_ sg_ ms).1))
  else if k = 6 then ((lt_ sg_ ms).2, !(lt_ sg_ ms).2)
  else (false, false)
theorem chv_bd {ms : List Sn} (h : SmS ms) (k f : Int) : -1099511627776 ≤ (chv f ((gd k ms).map va)).1 ∧ (chv f ((gd k ms).map va)).1 ≤ 1099511627776 := by
  have hb : ∀ y, y ∈ (gd k ms).map va → -2147483648 ≤ y.1 ∧ y.1 ≤ 2147483647 := by
    intro y hy
    obtain ⟨z, hz, rfl⟩ := List.mem_map.1 hy
    exact h z (List.mem_filter.1 (List.mem_of_mem_drop hz)).1
  generalize (gd k ms).map va = l at hb ⊢
  unfold chv
  by_cases e : (od f l).2 = true
  · rw [if_pos e]
    obtain ⟨t, ht⟩ := od_mem e
    have h1 := hb _ ht
    have h2 : -2147483648 ≤ (vl l).1 ∧ (vl l).1 ≤ 2147483647 := by
      unfold vl
      by_cases h : l.length = 0
      · rw [if_pos h]; simp
      · rw [if_neg h]
        exact hb (l.getD (l.length - 1) RV.E.z) (by rw [List.getD_eq_getElem?_getD, List.getElem?_eq_getElem (by omega)]; exact List.getElem_mem _)
    simp only at h1 ⊢
    omega
  · rw [if_neg e]; simp
set_option maxRecDepth 100000 in
set_option maxHeartbeats 3200000 in
theorem obs_any {w : World} {s g : Nat} {sh : List (Nat × Nat)} {ds : List Kd} {ms : List Sn} (h : St w s g sh ds) (hI : Inv sh.length ds ms) (hsm : SmS ms) (k sg_ lim bk dl sp pr_ : Int) (la : Bool) (A : Option Addr) (n c : Nat) (now : Int) (hn : BigI now) (hsp : BigI sp) :
    Calls Try.prog 13 #[.agg #[.int .u8 k, .int .i64 sg_, .int .i64 lim, .int .i64 bk, .int .i64 dl, .int .i64 sp, .int .u8 pr_, .bool la, .slice A n c], .pointer (some ⟨s, 0, none⟩), .int .i64 now] w (CPost w (ob k sg_ lim bk sp ms now)) := by
  have B := alloc_is (w := w) (n := w.heap.size) (.cells #[.int .u8 k, .int .i64 sg_, .int .i64 lim, .int .i64 bk, .int .i64 dl, .int .i64 sp, .int .u8 pr_, .bool la, .slice A n c] 27) rfl
  have F := (Fr.refl (fun _ => False) w).alloc (.cells #[.int .u8 k, .int .i64 sg_, .int .i64 lim, .int .i64 bk, .int .i64 dl, .int .i64 sp, .int .u8 pr_, .bool la, .slice A n c] 27)
  generalize hw1 : w.alloc (.cells #[.int .u8 k, .int .i64 sg_, .int .i64 lim, .int .i64 bk, .int .i64 dl, .int .i64 sp, .int .u8 pr_, .bool la, .slice A n c] 27) = w1 at B F
  have HB := Lib.hid B
  have HF := Lib.hid F
  have HN := Lib.hid hn
  have HSP := Lib.hid hsp
  have HSM := Lib.hid hsm
  have HK := Lib.hid (h.calm F)
  have HI := Lib.hid hI
  clear h hI
  obtain ⟨c0, c1, c2, c3, c4, c5, c6, c7, c8⟩ := cells9 B
  obtain ⟨r, hrr⟩ : ∃ r, ob k sg_ lim bk sp ms now = r := ⟨_, rfl⟩
  rw [hrr]
  unfold ob at hrr
  clear F hn hsp hsm
  by_cases k1 : k = 1
  · subst k1
    rw [if_pos (.inl rfl)] at hrr
    obtain ⟨v, hv⟩ : ∃ v, vl ((gd sg_ ms).map va) = v := ⟨_, rfl⟩
    obtain ⟨bb, hbb⟩ : ∃ bb, (lt_ sg_ ms).2 = bb := ⟨_, rfl⟩
    rw [hv, hbb] at hrr
    have HV := Lib.hid hv
    have HBB := Lib.hid hbb
    clear hv hbb
    obtain ⟨v0, v1, v2⟩ := v
    cases v2
    · simp at hrr
      have HR := Lib.hid hrr
      clear hrr
      go_enter Try.func13, Try.ntmps13
      go_wp2_with fail
      refine (value_all (HK.out.calm (Fr.refl _ _)) HI.out sg_ HV.out).mono ?_
      rintro e w2 ⟨rfl, F2⟩
      obtain ⟨e0, e1, e2, e3, e4, e5, e6, e7, e8⟩ := cells9 (F2.at_ HB.out (fun x => x))
      go_wp2
      go_ret2
      exact ⟨by rw [← HR.out]; rfl, HF.out.step F2 nop⟩
    · cases bb
      · simp at hrr
        have HR := Lib.hid hrr
        clear hrr
        go_enter Try.func13, Try.ntmps13
        go_wp2_with fail
        refine (value_all (HK.out.calm (Fr.refl _ _)) HI.out sg_ HV.out).mono ?_
        rintro e w2 ⟨rfl, F2⟩
        obtain ⟨e0, e1, e2, e3, e4, e5, e6, e7, e8⟩ := cells9 (F2.at_ HB.out (fun x => x))
        go_wp2_with fail
        refine (bad_all (HK.out.calm F2) HI.out sg_ HBB.out).mono ?_
        rintro e w3 ⟨rfl, F3⟩
        have F23 := F2.step F3 nop
        clear e0 e1 e2 e3 e4 e5 e6 e7 e8
        obtain ⟨e0, e1, e2, e3, e4, e5, e6, e7, e8⟩ := cells9 (F23.at_ HB.out (fun x => x))
        go_wp2_with fail
        refine (gcross_any w3 1 sg_ lim bk dl sp pr_ la A n c v0).mono ?_
        rintro e w4 ⟨rfl, F4⟩
        go_wp2
        go_ret2
        exact ⟨by rw [← HR.out]; rfl, (HF.out.step F23 nop).step F4 nop⟩
      · simp at hrr
        have HR := Lib.hid hrr
        clear hrr
        go_enter Try.func13, Try.ntmps13
        go_wp2_with fail
        refine (value_all (HK.out.calm (Fr.refl _ _)) HI.out sg_ HV.out).mono ?_
        rintro e w2 ⟨rfl, F2⟩
        obtain ⟨e0, e1, e2, e3, e4, e5, e6, e7, e8⟩ := cells9 (F2.at_ HB.out (fun x => x))
        go_wp2_with fail
        refine (bad_all (HK.out.calm F2) HI.out sg_ HBB.out).mono ?_
        rintro e w3 ⟨rfl, F3⟩
        have F23 := F2.step F3 nop
        go_wp2
        go_ret2
        exact ⟨by rw [← HR.out]; rfl, HF.out.step F23 nop⟩
  · by_cases k2 : k = 2
    · subst k2
      clear k1
      rw [if_pos (.inr rfl)] at hrr
      obtain ⟨v, hv⟩ : ∃ v, vl ((gd sg_ ms).map va) = v := ⟨_, rfl⟩
      obtain ⟨bb, hbb⟩ : ∃ bb, (lt_ sg_ ms).2 = bb := ⟨_, rfl⟩
      rw [hv, hbb] at hrr
      have HV := Lib.hid hv
      have HBB := Lib.hid hbb
      clear hv hbb
      obtain ⟨v0, v1, v2⟩ := v
      cases v2
      · simp at hrr
        have HR := Lib.hid hrr
        clear hrr
        go_enter Try.func13, Try.ntmps13
        go_wp2_with fail
        refine (value_all (HK.out.calm (Fr.refl _ _)) HI.out sg_ HV.out).mono ?_
        rintro e w2 ⟨rfl, F2⟩
        obtain ⟨e0, e1, e2, e3, e4, e5, e6, e7, e8⟩ := cells9 (F2.at_ HB.out (fun x => x))
        go_wp2
        go_ret2
        exact ⟨by rw [← HR.out]; rfl, HF.out.step F2 nop⟩
      · cases bb
        · simp at hrr
          have HR := Lib.hid hrr
          clear hrr
          go_enter Try.func13, Try.ntmps13
          go_wp2_with fail
          refine (value_all (HK.out.calm (Fr.refl _ _)) HI.out sg_ HV.out).mono ?_
          rintro e w2 ⟨rfl, F2⟩
          obtain ⟨e0, e1, e2, e3, e4, e5, e6, e7, e8⟩ := cells9 (F2.at_ HB.out (fun x => x))
          go_wp2_with fail
          refine (bad_all (HK.out.calm F2) HI.out sg_ HBB.out).mono ?_
          rintro e w3 ⟨rfl, F3⟩
          have F23 := F2.step F3 nop
          clear e0 e1 e2 e3 e4 e5 e6 e7 e8
          obtain ⟨e0, e1, e2, e3, e4, e5, e6, e7, e8⟩ := cells9 (F23.at_ HB.out (fun x => x))
          go_wp2_with fail
          refine (gcross_any w3 2 sg_ lim bk dl sp pr_ la A n c v0).mono ?_
          rintro e w4 ⟨rfl, F4⟩
          go_wp2
          go_ret2
          exact ⟨by rw [← HR.out]; rfl, (HF.out.step F23 nop).step F4 nop⟩
        · simp at hrr
          have HR := Lib.hid hrr
          clear hrr
          go_enter Try.func13, Try.ntmps13
          go_wp2_with fail
          refine (value_all (HK.out.calm (Fr.refl _ _)) HI.out sg_ HV.out).mono ?_
          rintro e w2 ⟨rfl, F2⟩
          obtain ⟨e0, e1, e2, e3, e4, e5, e6, e7, e8⟩ := cells9 (F2.at_ HB.out (fun x => x))
          go_wp2_with fail
          refine (bad_all (HK.out.calm F2) HI.out sg_ HBB.out).mono ?_
          rintro e w3 ⟨rfl, F3⟩
          have F23 := F2.step F3 nop
          go_wp2
          go_ret2
          exact ⟨by rw [← HR.out]; rfl, HF.out.step F23 nop⟩
    · rw [if_neg (fun h => h.elim k1 k2)] at hrr
      have j1 : (k == 1) = false := by simp [k1]
      have j2 : (k == 2) = false := by simp [k2]
      by_cases k3 : k = 3
      · subst k3
        clear k1 k2 j1 j2
        rw [if_pos (.inl rfl)] at hrr
        have hbd := chv_bd HSM.out sg_ (sn now sp)
        obtain ⟨d, hd⟩ : ∃ d, chv (sn now sp) ((gd sg_ ms).map va) = d := ⟨_, rfl⟩
        rw [hd] at hrr hbd
        have HD := Lib.hid hd
        clear hd
        obtain ⟨d0, d1⟩ := d
        have HBD := Lib.hid hbd
        clear hbd
        cases d1
        · simp at hrr
          have HR := Lib.hid hrr
          clear hrr
          go_enter Try.func13, Try.ntmps13
          go_wp2_with fail
          refine (change_all (HK.out.calm (Fr.refl _ _)) HI.out sg_ now sp HN.out HSP.out (HSM.out.vals sg_) HD.out).mono ?_
          rintro e w2 ⟨rfl, F2⟩
          go_wp2
          go_ret2
          exact ⟨by rw [← HR.out]; rfl, HF.out.step F2 nop⟩
        · simp at hrr
          have HR := Lib.hid hrr
          clear hrr
          go_enter Try.func13, Try.ntmps13
          go_wp2_with fail
          refine (change_all (HK.out.calm (Fr.refl _ _)) HI.out sg_ now sp HN.out HSP.out (HSM.out.vals sg_) HD.out).mono ?_
          rintro e w2 ⟨rfl, F2⟩
          obtain ⟨e0, e1, e2, e3, e4, e5, e6, e7, e8⟩ := cells9 (F2.at_ HB.out (fun x => x))
          go_wp2_with fail
          refine (cross_any w2 3 sg_ lim bk dl sp pr_ la A n c d0 HBD.out).mono ?_
          rintro e w4 ⟨rfl, F4⟩
          go_wp2
          go_ret2
          exact ⟨by rw [← HR.out]; rfl, (HF.out.step F2 nop).step F4 nop⟩
      · by_cases k4 : k = 4
        · subst k4
          clear k1 k2 k3 j1 j2
          rw [if_pos (.inr rfl)] at hrr
          have hbd := chv_bd HSM.out sg_ (sn now sp)
          obtain ⟨d, hd⟩ : ∃ d, chv (sn now sp) ((gd sg_ ms).map va) = d := ⟨_, rfl⟩
          rw [hd] at hrr hbd
          have HD := Lib.hid hd
          clear hd
          obtain ⟨d0, d1⟩ := d
          have HBD := Lib.hid hbd
          clear hbd
          cases d1
          · simp at hrr
            have HR := Lib.hid hrr
            clear hrr
            go_enter Try.func13, Try.ntmps13
            go_wp2_with fail
            refine (change_all (HK.out.calm (Fr.refl _ _)) HI.out sg_ now sp HN.out HSP.out (HSM.out.vals sg_) HD.out).mono ?_
            rintro e w2 ⟨rfl, F2⟩
            go_wp2
            go_ret2
            exact ⟨by rw [← HR.out]; rfl, HF.out.step F2 nop⟩
          · simp at hrr
            have HR := Lib.hid hrr
            clear hrr
            go_enter Try.func13, Try.ntmps13
            go_wp2_with fail
            refine (change_all (HK.out.calm (Fr.refl _ _)) HI.out sg_ now sp HN.out HSP.out (HSM.out.vals sg_) HD.out).mono ?_
            rintro e w2 ⟨rfl, F2⟩
            obtain ⟨e0, e1, e2, e3, e4, e5, e6, e7, e8⟩ := cells9 (F2.at_ HB.out (fun x => x))
            go_wp2_with fail
            refine (cross_any w2 4 sg_ lim bk dl sp pr_ la A n c d0 HBD.out).mono ?_
            rintro e w4 ⟨rfl, F4⟩
            go_wp2
            go_ret2
            exact ⟨by rw [← HR.out]; rfl, (HF.out.step F2 nop).step F4 nop⟩
        · rw [if_neg (fun h => h.elim k3 k4)] at hrr
          have j3 : (k == 3) = false := by simp [k3]
          have j4 : (k == 4) = false := by simp [k4]
          by_cases k5 : k = 5
          · subst k5
            clear k1 k2 k3 k4 j1 j2 j3 j4
            rw [if_pos rfl] at hrr
            obtain ⟨q, hq⟩ : ∃ q, sn now (lt_ sg_ ms).1 = q := ⟨_, rfl⟩
            rw [hq] at hrr
            have HQ := Lib.hid (fun n : Calm w1 => quiet_all (HK.out.calm n.fr) HI.out sg_ now HN.out hq)
            have HR := Lib.hid hrr
            clear hrr hq
            go_enter Try.func13, Try.ntmps13
            go_wp2_with fail
            clear c1 c2 c3 c4 c5 c6 c7 c8
            obtain ⟨m0, m1, m2, m3, m4, m5, m6, m7, m8⟩ := Calm.cells9 HB.out
            (refine wp_region_calm (by kernel_rfl) (by kernel_rfl) ?_; (repeat (go_big_quiet_step ((go_at_call 27; exact Calm.of (HQ.out _))))); refine wpQuiet_nil ?_; intro _ hwq0; obtain ⟨nq, hwq1⟩ := hwq0; subst hwq1)
            have F2 := nq.fr
            go_wp2
            go_ret2
            exact ⟨by rw [← HR.out]; rfl, HF.out.step F2 nop⟩
          · rw [if_neg k5] at hrr
            have j5 : (k == 5) = false := by simp [k5]
            by_cases k6 : k = 6
            · subst k6
              clear k1 k2 k3 k4 k5 j1 j2 j3 j4 j5
              rw [if_pos rfl] at hrr
              have HR := Lib.hid hrr
              clear hrr
              go_enter Try.func13, Try.ntmps13
              go_wp2_with fail
              refine (bad_all (HK.out.calm (Fr.refl _ _)) HI.out sg_ rfl).mono ?_
              rintro e w2 ⟨rfl, F2⟩
              go_wp2
              go_ret2
              exact ⟨by rw [← HR.out]; rfl, HF.out.step F2 nop⟩
            · rw [if_neg k6] at hrr
              have j6 : (k == 6) = false := by simp [k6]
              have HR := Lib.hid hrr
              clear hrr k1 k2 k3 k4 k5 k6
              go_enter Try.func13, Try.ntmps13
              go_wp2
              go_ret2
              exact ⟨by rw [← HR.out]; rfl, HF.out⟩
set_option maxRecDepth 100000 in
set_option maxHeartbeats 3200000 in
theorem robs_any {w : World} {AA : Option Addr} {m cc : Nat} {ms : List Sn} (hr : Reads ESn w AA m ms) (hlen : m ≤ 1000) (hbig : ∀ k, BigI (lt_ k ms).1) (hsm : SmS ms) (k sg_ lim bk dl sp pr_ : Int) (la : Bool) (A : Option Addr) (n c : Nat) (now : Int) (hn : BigI now) (hsp : BigI sp) :
    Calls Try.prog 14 #[.agg #[.int .u8 k, .int .i64 sg_, .int .i64 lim, .int .i64 bk, .int .i64 dl, .int .i64 sp, .int .u8 pr_, .bool la, .slice A n c], .slice AA m cc, .int .i64 now] w (CPost w (ob k sg_ lim bk sp ms now)) := by
  have B := alloc_is (w := w) (n := w.heap.size) (.cells #[.int .u8 k, .int .i64 sg_, .int .i64 lim, .int .i64 bk, .int .i64 dl, .int .i64 sp, .int .u8 pr_, .bool la, .slice A n c] 27) rfl
  have F := (Fr.refl (fun _ => False) w).alloc (.cells #[.int .u8 k, .int .i64 sg_, .int .i64 lim, .int .i64 bk, .int .i64 dl, .int .i64 sp, .int .u8 pr_, .bool la, .slice A n c] 27)
  generalize hw1 : w.alloc (.cells #[.int .u8 k, .int .i64 sg_, .int .i64 lim, .int .i64 bk, .int .i64 dl, .int .i64 sp, .int .u8 pr_, .bool la, .slice A n c] 27) = w1 at B F
  have HB := Lib.hid B
  have HF := Lib.hid F
  have HN := Lib.hid hn
  have HSP := Lib.hid hsp
  have HSM := Lib.hid hsm
  have HK := Lib.hid (hr.fr F (fun _ _ x => x))
  have HBG := Lib.hid hbig
  clear hr hbig
  obtain ⟨c0, c1, c2, c3, c4, c5, c6, c7, c8⟩ := cells9 B
  obtain ⟨r, hrr⟩ : ∃ r, ob k sg_ lim bk sp ms now = r := ⟨_, rfl⟩
  rw [hrr]
  unfold ob at hrr
  clear F hn hsp hsm
  by_cases k1 : k = 1
  · subst k1
    rw [if_pos (.inl rfl)] at hrr
    obtain ⟨v, hv⟩ : ∃ v, vl ((gd sg_ ms).map va) = v := ⟨_, rfl⟩
    obtain ⟨bb, hbb⟩ : ∃ bb, (lt_ sg_ ms).2 = bb := ⟨_, rfl⟩
    rw [hv, hbb] at hrr
    have HV := Lib.hid hv
    have HBB := Lib.hid hbb
    clear hv hbb
    obtain ⟨v0, v1, v2⟩ := v
    cases v2
    · simp at hrr
      have HR := Lib.hid hrr
      clear hrr
      go_enter Try.func14, Try.ntmps14
      go_wp2_with fail
      refine (rvalue_r w1 AA _ _ _ sg_ HK.out hlen HV.out).mono ?_
      rintro e w2 ⟨rfl, F2⟩
      obtain ⟨e0, e1, e2, e3, e4, e5, e6, e7, e8⟩ := cells9 (F2.at_ HB.out (fun x => x))
      go_wp2
      go_ret2
      exact ⟨by rw [← HR.out]; rfl, HF.out.step F2 nop⟩
    · cases bb
      · simp at hrr
        have HR := Lib.hid hrr
        clear hrr
        go_enter Try.func14, Try.ntmps14
        go_wp2_with fail
        refine (rvalue_r w1 AA _ _ _ sg_ HK.out hlen HV.out).mono ?_
        rintro e w2 ⟨rfl, F2⟩
        obtain ⟨e0, e1, e2, e3, e4, e5, e6, e7, e8⟩ := cells9 (F2.at_ HB.out (fun x => x))
        go_wp2_with fail
        refine (rbad_any w2 AA _ _ _ sg_ (HK.out.fr F2 (fun _ _ x => x)) hlen HBB.out).mono ?_
        rintro e w3 ⟨rfl, F3⟩
        have F23 := F2.step F3 nop
        clear e0 e1 e2 e3 e4 e5 e6 e7 e8
        obtain ⟨e0, e1, e2, e3, e4, e5, e6, e7, e8⟩ := cells9 (F23.at_ HB.out (fun x => x))
        go_wp2_with fail
        refine (rgcross_any w3 1 sg_ lim bk dl sp pr_ la A n c v0).mono ?_
        rintro e w4 ⟨rfl, F4⟩
        go_wp2
        go_ret2
        exact ⟨by rw [← HR.out]; rfl, (HF.out.step F23 nop).step F4 nop⟩
      · simp at hrr
        have HR := Lib.hid hrr
        clear hrr
        go_enter Try.func14, Try.ntmps14
        go_wp2_with fail
        refine (rvalue_r w1 AA _ _ _ sg_ HK.out hlen HV.out).mono ?_
        rintro e w2 ⟨rfl, F2⟩
        obtain ⟨e0, e1, e2, e3, e4, e5, e6, e7, e8⟩ := cells9 (F2.at_ HB.out (fun x => x))
        go_wp2_with fail
        refine (rbad_any w2 AA _ _ _ sg_ (HK.out.fr F2 (fun _ _ x => x)) hlen HBB.out).mono ?_
        rintro e w3 ⟨rfl, F3⟩
        have F23 := F2.step F3 nop
        go_wp2
        go_ret2
        exact ⟨by rw [← HR.out]; rfl, HF.out.step F23 nop⟩
  · by_cases k2 : k = 2
    · subst k2
      clear k1
      rw [if_pos (.inr rfl)] at hrr
      obtain ⟨v, hv⟩ : ∃ v, vl ((gd sg_ ms).map va) = v := ⟨_, rfl⟩
      obtain ⟨bb, hbb⟩ : ∃ bb, (lt_ sg_ ms).2 = bb := ⟨_, rfl⟩
      rw [hv, hbb] at hrr
      have HV := Lib.hid hv
      have HBB := Lib.hid hbb
      clear hv hbb
      obtain ⟨v0, v1, v2⟩ := v
      cases v2
      · simp at hrr
        have HR := Lib.hid hrr
        clear hrr
        go_enter Try.func14, Try.ntmps14
        go_wp2_with fail
        refine (rvalue_r w1 AA _ _ _ sg_ HK.out hlen HV.out).mono ?_
        rintro e w2 ⟨rfl, F2⟩
        obtain ⟨e0, e1, e2, e3, e4, e5, e6, e7, e8⟩ := cells9 (F2.at_ HB.out (fun x => x))
        go_wp2
        go_ret2
        exact ⟨by rw [← HR.out]; rfl, HF.out.step F2 nop⟩
      · cases bb
        · simp at hrr
          have HR := Lib.hid hrr
          clear hrr
          go_enter Try.func14, Try.ntmps14
          go_wp2_with fail
          refine (rvalue_r w1 AA _ _ _ sg_ HK.out hlen HV.out).mono ?_
          rintro e w2 ⟨rfl, F2⟩
          obtain ⟨e0, e1, e2, e3, e4, e5, e6, e7, e8⟩ := cells9 (F2.at_ HB.out (fun x => x))
          go_wp2_with fail
          refine (rbad_any w2 AA _ _ _ sg_ (HK.out.fr F2 (fun _ _ x => x)) hlen HBB.out).mono ?_
          rintro e w3 ⟨rfl, F3⟩
          have F23 := F2.step F3 nop
          clear e0 e1 e2 e3 e4 e5 e6 e7 e8
          obtain ⟨e0, e1, e2, e3, e4, e5, e6, e7, e8⟩ := cells9 (F23.at_ HB.out (fun x => x))
          go_wp2_with fail
          refine (rgcross_any w3 2 sg_ lim bk dl sp pr_ la A n c v0).mono ?_
          rintro e w4 ⟨rfl, F4⟩
          go_wp2
          go_ret2
          exact ⟨by rw [← HR.out]; rfl, (HF.out.step F23 nop).step F4 nop⟩
        · simp at hrr
          have HR := Lib.hid hrr
          clear hrr
          go_enter Try.func14, Try.ntmps14
          go_wp2_with fail
          refine (rvalue_r w1 AA _ _ _ sg_ HK.out hlen HV.out).mono ?_
          rintro e w2 ⟨rfl, F2⟩
          obtain ⟨e0, e1, e2, e3, e4, e5, e6, e7, e8⟩ := cells9 (F2.at_ HB.out (fun x => x))
          go_wp2_with fail
          refine (rbad_any w2 AA _ _ _ sg_ (HK.out.fr F2 (fun _ _ x => x)) hlen HBB.out).mono ?_
          rintro e w3 ⟨rfl, F3⟩
          have F23 := F2.step F3 nop
          go_wp2
          go_ret2
          exact ⟨by rw [← HR.out]; rfl, HF.out.step F23 nop⟩
    · rw [if_neg (fun h => h.elim k1 k2)] at hrr
      have j1 : (k == 1) = false := by simp [k1]
      have j2 : (k == 2) = false := by simp [k2]
      by_cases k3 : k = 3
      · subst k3
        clear k1 k2 j1 j2
        rw [if_pos (.inl rfl)] at hrr
        have hbd := chv_bd HSM.out sg_ (sn now sp)
        obtain ⟨d, hd⟩ : ∃ d, chv (sn now sp) ((gd sg_ ms).map va) = d := ⟨_, rfl⟩
        rw [hd] at hrr hbd
        have HD := Lib.hid hd
        clear hd
        obtain ⟨d0, d1⟩ := d
        have HBD := Lib.hid hbd
        clear hbd
        cases d1
        · simp at hrr
          have HR := Lib.hid hrr
          clear hrr
          go_enter Try.func14, Try.ntmps14
          go_wp2_with fail
          refine (rchange_any w1 AA _ _ _ sg_ now sp HK.out hlen HN.out HSP.out (HSM.out.vals sg_) HD.out).mono ?_
          rintro e w2 ⟨rfl, F2⟩
          go_wp2
          go_ret2
          exact ⟨by rw [← HR.out]; rfl, HF.out.step F2 nop⟩
        · simp at hrr
          have HR := Lib.hid hrr
          clear hrr
          go_enter Try.func14, Try.ntmps14
          go_wp2_with fail
          refine (rchange_any w1 AA _ _ _ sg_ now sp HK.out hlen HN.out HSP.out (HSM.out.vals sg_) HD.out).mono ?_
          rintro e w2 ⟨rfl, F2⟩
          obtain ⟨e0, e1, e2, e3, e4, e5, e6, e7, e8⟩ := cells9 (F2.at_ HB.out (fun x => x))
          go_wp2_with fail
          refine (rcross_any w2 3 sg_ lim bk dl sp pr_ la A n c d0 HBD.out).mono ?_
          rintro e w4 ⟨rfl, F4⟩
          go_wp2
          go_ret2
          exact ⟨by rw [← HR.out]; rfl, (HF.out.step F2 nop).step F4 nop⟩
      · by_cases k4 : k = 4
        · subst k4
          clear k1 k2 k3 j1 j2
          rw [if_pos (.inr rfl)] at hrr
          have hbd := chv_bd HSM.out sg_ (sn now sp)
          obtain ⟨d, hd⟩ : ∃ d, chv (sn now sp) ((gd sg_ ms).map va) = d := ⟨_, rfl⟩
          rw [hd] at hrr hbd
          have HD := Lib.hid hd
          clear hd
          obtain ⟨d0, d1⟩ := d
          have HBD := Lib.hid hbd
          clear hbd
          cases d1
          · simp at hrr
            have HR := Lib.hid hrr
            clear hrr
            go_enter Try.func14, Try.ntmps14
            go_wp2_with fail
            refine (rchange_any w1 AA _ _ _ sg_ now sp HK.out hlen HN.out HSP.out (HSM.out.vals sg_) HD.out).mono ?_
            rintro e w2 ⟨rfl, F2⟩
            go_wp2
            go_ret2
            exact ⟨by rw [← HR.out]; rfl, HF.out.step F2 nop⟩
          · simp at hrr
            have HR := Lib.hid hrr
            clear hrr
            go_enter Try.func14, Try.ntmps14
            go_wp2_with fail
            refine (rchange_any w1 AA _ _ _ sg_ now sp HK.out hlen HN.out HSP.out (HSM.out.vals sg_) HD.out).mono ?_
            rintro e w2 ⟨rfl, F2⟩
            obtain ⟨e0, e1, e2, e3, e4, e5, e6, e7, e8⟩ := cells9 (F2.at_ HB.out (fun x => x))
            go_wp2_with fail
            refine (rcross_any w2 4 sg_ lim bk dl sp pr_ la A n c d0 HBD.out).mono ?_
            rintro e w4 ⟨rfl, F4⟩
            go_wp2
            go_ret2
            exact ⟨by rw [← HR.out]; rfl, (HF.out.step F2 nop).step F4 nop⟩
        · rw [if_neg (fun h => h.elim k3 k4)] at hrr
          have j3 : (k == 3) = false := by simp [k3]
          have j4 : (k == 4) = false := by simp [k4]
          have HBB := Lib.hid (rfl : (lt_ sg_ ms).2 = (lt_ sg_ ms).2)
          by_cases k5 : k = 5
          · subst k5
            clear k1 k2 k3 k4 j1 j2 j3 j4
            rw [if_pos rfl] at hrr
            obtain ⟨q, hq⟩ : ∃ q, sn now (lt_ sg_ ms).1 = q := ⟨_, rfl⟩
            rw [hq] at hrr
            have HQ := Lib.hid hq
            have HR := Lib.hid hrr
            clear hrr hq
            go_enter Try.func14, Try.ntmps14
            go_wp2_with fail
            refine (rbad_any w1 AA _ _ _ sg_ HK.out hlen rfl).mono ?_
            rintro e w2 ⟨rfl, F2⟩
            have HQ2 := Lib.hid (fun n : Calm w2 => rquiet_any n.to AA _ cc _ sg_ now ((HK.out.fr F2 (fun _ _ x => x)).fr n.fr (fun _ _ x => x)) hlen HN.out (HBG.out sg_) HQ.out)
            have B2 := F2.at_ HB.out (fun x => x)
            obtain ⟨e0, e1, e2, e3, e4, e5, e6, e7, e8⟩ := cells9 (F2.at_ HB.out (fun x => x))
            clear c0 c1 c2 c3 c4 c5 c6 c7 c8
            go_wp2_with fail
            obtain ⟨m0, m1, m2, m3, m4, m5, m6, m7, m8⟩ := Calm.cells9 B2
            (refine wp_region_calm (by kernel_rfl) (by kernel_rfl) ?_; (repeat (go_big_quiet_step ((go_at_call 33; exact Calm.of (HQ2.out _))))); refine wpQuiet_nil ?_; intro _ hwq0; obtain ⟨nq, hwq1⟩ := hwq0; subst hwq1)
            have F3 := nq.fr
            have p0 := m0 nq
            go_wp2
            go_ret2
            exact ⟨by rw [← HR.out]; rfl, (HF.out.step F2 nop).step F3 nop⟩
          · rw [if_neg k5] at hrr
            have j5 : (k == 5) = false := by simp [k5]
            have i5 : (k != 5) = true := by simp [k5]
            by_cases k6 : k = 6
            · subst k6
              clear k1 k2 k3 k4 k5 j1 j2 j3 j4 j5 i5
              rw [if_pos rfl] at hrr
              have HR := Lib.hid hrr
              clear hrr
              go_enter Try.func14, Try.ntmps14
              go_wp2_with fail
              refine (rbad_any w1 AA _ _ _ sg_ HK.out hlen rfl).mono ?_
              rintro e w2 ⟨rfl, F2⟩
              obtain ⟨e0, e1, e2, e3, e4, e5, e6, e7, e8⟩ := cells9 (F2.at_ HB.out (fun x => x))
              go_wp2
              go_ret2
              exact ⟨by rw [← HR.out]; rfl, HF.out.step F2 nop⟩
            · rw [if_neg k6] at hrr
              have j6 : (k == 6) = false := by simp [k6]
              have i6 : (k != 6) = true := by simp [k6]
              have HR := Lib.hid hrr
              clear hrr k1 k2 k3 k4 k5 k6
              go_enter Try.func14, Try.ntmps14
              go_wp2_with fail
              refine (rbad_any w1 AA _ _ _ sg_ HK.out hlen rfl).mono ?_
              rintro e w2 ⟨rfl, F2⟩
              obtain ⟨e0, e1, e2, e3, e4, e5, e6, e7, e8⟩ := cells9 (F2.at_ HB.out (fun x => x))
              go_wp2
              go_ret2
              exact ⟨by rw [← HR.out]; rfl, HF.out.step F2 nop⟩

end Go.Proofs.Ytbmhgkajjjiniaa
