/- Bc. -/
import Derived.Test.YtcpapadkdeajaaaChecked
import Derived.WalkKit
import Derived.Laws.IdiomCopy
import Derived.Deep.QuietTactic
import Derived.BigQuiet
import Derived.Lib.Hide
import Derived.OpenShut
import Derived.StillTailTactics
import Derived.Deep.RegionWith
import Derived.Deep.RegionLaw
import Derived.Deep.Slices
import Derived.Deep.RegionHeld3
import Derived.OwnWalk
import Derived.Test.YtcpapadkdeajaaaBase
import Derived.Test.YtcpapadkdeajaaaCalm
import Derived.Test.YtcpapadkdeajaaaCalmT
import Derived.Test.YtcpapadkdeajaaaCel
import Derived.Test.YtcpapadkdeajaaaApp
import Derived.Test.YtcpapadkdeajaaaRE
import Derived.Test.YtcpapadkdeajaaaREB
import Derived.Test.YtcpapadkdeajaaaREC
import Derived.Test.YtcpapadkdeajaaaREA
import Derived.Test.YtcpapadkdeajaaaBq
import Derived.Test.YtcpapadkdeajaaaBp
import Derived.Test.YtcpapadkdeajaaaBx
import Derived.Test.YtcpapadkdeajaaaBn
namespace Go.Proofs.Ytcpapadkdeajaaa
open Go.RowKit
set_option linter.unusedVariables false
set_option linter.unusedSimpArgs false

/-! ### BandCounts -/
def ESe : El Int := ⟨fun x => [.int .i64 x], 1, fun _ => rfl, Nat.one_pos, 0⟩
theorem infoI : (Try.prog.info? 3).map (fun i => (i.zero, i.size, i.bytes)) = some (some (.int .i64 0), 1, 8) := by kernel_rfl
def SeB (w : World) (sb : Nat) (ss : List Int) : Prop := w.heap[sb]? = some (.cells (ESe.flat ss) 3 (0, 0))
theorem SeB.cell {w : World} {sb : Nat} {ss : List Int} (h : SeB w sb ss) {r : Nat} (hr : r < ss.length) {x : Int} (hx : ss.getD r 0 = x) : w.cell? ⟨sb, r, none⟩ = some (.int .i64 x) := by
  rw [cell_of h]
  show (ss.flatMap ESe.enc).toArray[r]? = _
  rw [List.getElem?_toArray]
  have := ESe.flat_get ss r 0 hr (by decide)
  rw [show r * ESe.sz + 0 = r from by simp [ESe]] at this
  rw [this, show ss.getD r ESe.z = x from hx]; rfl
theorem SeB.set {w : World} {sb : Nat} {ss : List Int} (h : SeB w sb ss) {r : Nat} (hr : r < ss.length) (x : Int) : SeB (w.setCell ⟨sb, r, none⟩ (.int .i64 x)) sb (ss.set r x) := by
  unfold SeB
  rw [set_at h r (.int .i64 x)]
  congr 2
  unfold El.flat
  rw [← ESe.flat_set ss r x hr]
  show (ss.flatMap ESe.enc).toArray.setIfInBounds r (.int .i64 x) = ((ss.flatMap ESe.enc).set (r * 1) (.int .i64 x)).toArray
  rw [Nat.mul_one]; simp
/-- Is a rule's event there? -/
def inq (ls : Nat → List Ev) (r : Nat) : Prop := ∃ b, b < 3 ∧ (((r : Int), true, 0) : Ev) ∈ ls b
structure Cn (n P : Nat) (ls : Nat → List Ev) (ss : List Int) : Prop where
  len : ss.length = n
  a : ∀ r, r < P → inq ls r → ss.getD r 0 = 0
  b : ∀ r, r < P → ¬ inq ls r → ss.getD r 0 = 1
  c : ∀ r, P ≤ r → ss.getD r 0 = 0
theorem Cn.nil (n : Nat) : Cn n 0 (fun _ => []) (List.replicate n 0) :=
  ⟨by simp, fun r h => absurd h (Nat.not_lt_zero r), fun r h => absurd h (Nat.not_lt_zero r), fun r _ => by
    rw [List.getD_eq_getElem?_getD, List.getElem?_replicate]; split <;> rfl⟩
theorem Cn.put {n P : Nat} {ls : Nat → List Ev} {ss : List Int} (h : Cn n P ls ss) {zs : List Int} (ho : Onc zs P true ls) {i : Nat} (hi : i < 3) : Cn n (P + 1) (upd ls i (ls i ++ [((P : Int), true, 0)])) ss := by
  have key : ∀ r, r < P → (inq (upd ls i (ls i ++ [((P : Int), true, 0)])) r ↔ inq ls r) := by
    intro r hr
    constructor
    · rintro ⟨b, hb, hm⟩
      by_cases e : b = i
      · subst e
        rw [upd_same] at hm
        rcases List.mem_append.1 hm with h1 | h1
        · exact ⟨b, hb, h1⟩
        · have h2 := List.mem_singleton.1 h1
          have h3 : (r : Int) = (P : Int) := (Prod.mk.inj h2).1
          omega
      · rw [upd_ne _ e] at hm; exact ⟨b, hb, hm⟩
    · rintro ⟨b, hb, hm⟩
      refine ⟨b, hb, ?_⟩
      by_cases e : b = i
      · subst e; rw [upd_same]; exact List.mem_append_left _ hm
      · rw [upd_ne _ e]; exact hm
  have hin : inq (upd ls i (ls i ++ [((P : Int), true, 0)])) P := ⟨i, hi, by rw [upd_same]; simp⟩
  refine ⟨h.len, fun r hr hq => ?_, fun r hr hq => ?_, fun r hr => h.c r (by omega)⟩
  · by_cases e : r = P
    · subst e; exact h.c r (Nat.le_refl _)
    · exact h.a r (by omega) ((key r (by omega)).1 hq)
  · by_cases e : r = P
    · subst e; exact absurd hin hq
    · exact h.b r (by omega) (fun hh => hq ((key r (by omega)).2 hh))
theorem Cn.take {n P : Nat} {ls : Nat → List Ev} {ss : List Int} (h : Cn n P ls ss) {zs : List Int} (ho : Onc zs P true ls) (hP : P ≤ n) {i : Nat} (hi : i < 3) {r : Nat} {l : List Ev} (hl : ls i = ((r : Int), true, 0) :: l) : Cn n P (upd ls i l) (ss.set r 1) := by
  have hmem : (((r : Int), true, 0) : Ev) ∈ ls i := by rw [hl]; exact List.mem_cons_self
  obtain ⟨r', hr', he, hz⟩ := ho.of_ i hi _ hmem
  have hrr : r' = r := by have := (Prod.mk.inj he).1; omega
  subst hrr
  have hgone : ¬ inq (upd ls i l) r' := by
    rintro ⟨b, hb, hm⟩
    by_cases e : b = i
    · subst e
      rw [upd_same] at hm
      have := ho.inc b hb
      rw [hl] at this
      have := (List.pairwise_cons.1 this).1 _ hm
      simp only at this; omega
    · rw [upd_ne _ e] at hm
      obtain ⟨r2, _, h2, h3⟩ := ho.of_ b hb _ hm
      have : r2 = r' := by have := (Prod.mk.inj h2).1; omega
      subst this
      omega
  have key : ∀ k, k ≠ r' → (inq (upd ls i l) k ↔ inq ls k) := by
    intro k hk
    constructor
    · rintro ⟨b, hb, hm⟩
      refine ⟨b, hb, ?_⟩
      by_cases e : b = i
      · subst e; rw [upd_same] at hm; rw [hl]; exact List.mem_cons_of_mem _ hm
      · rw [upd_ne _ e] at hm; exact hm
    · rintro ⟨b, hb, hm⟩
      refine ⟨b, hb, ?_⟩
      by_cases e : b = i
      · subst e
        rw [upd_same]
        rw [hl] at hm
        rcases List.mem_cons.1 hm with h1 | h1
        · have := (Prod.mk.inj h1).1; omega
        · exact h1
      · rw [upd_ne _ e]; exact hm
  have hrn : r' < ss.length := by rw [h.len]; omega
  refine ⟨by rw [List.length_set]; exact h.len, fun k hk hq => ?_, fun k hk hq => ?_, fun k hk => ?_⟩
  · by_cases e : k = r'
    · subst e; exact absurd hq hgone
    · rw [getD_set_ne _ _ _ _ _ (Ne.symm e)]; exact h.a k hk ((key k e).1 hq)
  · by_cases e : k = r'
    · subst e; rw [getD_set_same _ _ _ _ hrn]
    · rw [getD_set_ne _ _ _ _ _ (Ne.symm e)]; exact h.b k hk (fun hh => hq ((key k e).2 hh))
  · by_cases e : k = r'
    · omega
    · rw [getD_set_ne _ _ _ _ _ (Ne.symm e)]; exact h.c k hk
theorem empty_of {ls : Nat → List Ev} (h : tot ls = 0) : ∀ i, i < 3 → ls i = [] := fun i hi => by
  have := tot_le (ls := ls) hi
  exact List.eq_nil_of_length_eq_zero (by omega)
/-- What holds ahead of round j. -/
structure BcI (zs : List Int) (n j : Nat) (ls : Nat → List Ev) (ss : List Int) : Prop where
  o : Onc zs (min j n) true ls
  c : Cn n (min j n) ls ss
  t1 : tot ls ≤ min j n
  t2 : tot ls ≤ n - (j - n)
def BcR (W : World) (q : Nat) (qs : Nat → Nat × Nat) (sb : Nat) (zs : List Int) (n T : Nat) (v : Value) (wr : World) : Prop :=
  ∃ (j : Nat) (ls : Nat → List Ev) (ss : List Int), v = .int .i64 j ∧ j ≤ n + T ∧ BcI zs n j ls ss ∧ SeB wr sb ss ∧ Qu wr q qs (tri 200 200 200) ls ∧ Fr (fun _ => False) W wr
def BcS (W : World) (sb : Nat) (ss : List Int) (q : Nat) (qs : Nat → Nat × Nat) (ls : Nat → List Ev) (n : Nat) (v : Value) (wr : World) : Prop :=
  ∃ j : Nat, v = .int .i64 j ∧ j ≤ n ∧ SeB wr sb ss ∧ Qu wr q qs (tri 200 200 200) ls ∧ Fr (fun _ => False) W wr
/-- One put. -/
theorem BcI.put {zs : List Int} {n j : Nat} {ls : Nat → List Ev} {ss : List Int} (h : BcI zs n j ls ss) (hj : j < n) {i : Nat} (hi : i < 3) (hz : (zs.getD j EBy.z) % 3 = (i : Int)) :
    Onc zs (j + 1) true (upd ls i (ls i ++ [((j : Int), true, 0)])) ∧ Cn n (j + 1) (upd ls i (ls i ++ [((j : Int), true, 0)])) ss ∧ tot (upd ls i (ls i ++ [((j : Int), true, 0)])) ≤ j + 1 := by
  have hm : min j n = j := by omega
  obtain ⟨o, c, t1, t2⟩ := h
  rw [hm] at o c t1
  refine ⟨o.put hi hz, c.put o hi, ?_⟩
  have a := tot_upd ls hi (ls i ++ [((j : Int), true, 0)])
  simp only [List.length_append, List.length_singleton] at a
  omega
set_option maxRecDepth 100000 in
set_option maxHeartbeats 8000000 in
theorem BandCounts_walk (A : Option Addr) (n cap : Nat) (zs : List Int) (every : Int) (W : World) (hr : Reads EBy W A n zs) (hw : ∀ y, y ∈ zs → (Lit.int .u8 y).wf = true) (hcap : n ≤ cap ∧ cap ≤ maxLen) (w1 : (Lit.int .u8 every).wf = true) :
    Calls Try.prog 5 #[.slice A n cap, .int .u8 every] W fun e w' => e = .returned (.bool true) ∧ Below W.heap.size W w' := by
  clear hcap
  have hev := bounds_u8 w1
  clear w1
  have HL := Lib.hid hr.1
  have HW := Lib.hid hw
  have HRD := Lib.hid hr
  clear hw hr
  by_cases hn : n ≤ 100
  · have e0 : ¬ (100 : Int) < (n : Int) := by omega
    obtain ⟨N, hN⟩ : ∃ N : Nat, 2 + every % 5 = (N : Int) := ⟨(2 + every % 5).toNat, by omega⟩
    have hNb : 2 ≤ N ∧ N ≤ 6 := by omega
    have HN := Lib.hid hN
    clear hN
    obtain ⟨T, hT⟩ : ∃ T, N * n = T := ⟨_, rfl⟩
    have hT2 : n ≤ T := by rw [← hT]; exact Nat.le_mul_of_pos_left n (by omega)
    have hT6 : T ≤ 600 := by rw [← hT]; exact Nat.mul_le_mul hNb.2 hn
    have hmul : (N : Int) * (n : Int) = (T : Int) := by rw [← hT]; push_cast; rfl
    have gm : IntKind.i64.wrap ((N : Int) * (n : Int)) = (T : Int) := by rw [hmul]; exact IntWalk.i64_in _ (by omega)
    have gm2 : wrap64 ((N : Int) * (n : Int)) = (T : Int) := by rw [hmul]; exact IntWalk.wrap64_in _ (by omega)
    clear hT
    obtain ⟨i0, hi, hz0, hz1, hz2⟩ := info_parts infoI
    have hmk : ∀ W, (Instr.makeSlice 36 (.int .i64 (n : Int)) (.int .i64 (n : Int))).run Try.prog W = .ok (.slice (some ⟨W.heap.size, 0, none⟩) n n) (W.alloc (.cells (ESe.flat (List.replicate n ESe.z)) 3)) := by
      intro W
      have := run_make (P := Try.prog) W 36 3 i0 _ Try.underlying36 hi hz0 .i64 .i64 (n : Int) (n : Int) (by omega) (by omega) (by rw [hz2]; omega) (by omega)
      rw [this, hz1]
      simp only [Int.toNat_natCast]
      rw [← made_flat ESe n]; rfl
    clear hi hz0 hz1 hz2
    go_enter Try.func5, Try.ntmps5
    go_wp2_with fail
    refine (first_any _).mono ?_
    rintro e w1 ⟨rfl, F1⟩
    go_wp2_with fail
    refine (qnew _ 200 200 200).mono ?_
    rintro e w2 ⟨q, qs, rfl, Q2, F2, hup0⟩
    rw [show RE.room 200 = 200 from by decide] at Q2
    have HUP : Hid (∀ k, inQ q qs k → W.heap.size ≤ k) := Lib.hid (fun k hk => Nat.le_trans F1.size (hup0 k hk))
    have HNS0 : Hid (¬ inQ q qs w2.heap.size) := Lib.hid (fun hh => by have := Q2.in_ hh; omega)
    have F12 := F1.step F2 nop
    have HWS0 : Hid (W.heap.size ≤ w2.heap.size) := Lib.hid F12.size
    have B3 := alloc_is (w := w2) (n := w2.heap.size) (.cells (ESe.flat (List.replicate n ESe.z)) 3) rfl
    have F3 := (Fr.refl (fun _ => False) w2).alloc (.cells (ESe.flat (List.replicate n ESe.z)) 3)
    generalize hw3 : w2.alloc (.cells (ESe.flat (List.replicate n ESe.z)) 3) = w3 at B3 F3
    have HRL0 : Hid (BcR W q qs w2.heap.size zs n T (.int .i64 0) w3) := Lib.hid ⟨0, fun _ => [], List.replicate n 0, rfl, Nat.zero_le _, ⟨by rw [Nat.zero_min]; exact Onc.nil _ _, by rw [Nat.zero_min]; exact Cn.nil n, Nat.zero_le _, Nat.zero_le _⟩, B3, Q2.calm F3, F12.step F3 nop⟩
    obtain ⟨sb, hsb⟩ : ∃ sb, w2.heap.size = sb := ⟨_, rfl⟩
    have HRL := HRL0
    rw [hsb] at HRL HNS0 HWS0
    have HNS := HNS0
    have HWS := HWS0
    clear B3 F3 Q2 F1 F2 F12 hup0 HRL0 HNS0 HWS0
    go_wp2_with fail
    try rw [hsb]
    try rw [HN.out]
    clear hsb hw3 hmk
    go_loopw [8] (fun v wr => BcR W q qs sb zs n T v wr) (fun v _ => n + T - (intOf v).toNat)
    case atStart => exact HRL.out
    case round =>
      clear HRL
      obtain ⟨j, ls, ss, rfl, hj, hI, S, Q, F⟩ := hrel
      have HQ := Lib.hid Q
      have HF := Lib.hid F
      have HS := Lib.hid S
      have HI0 := Lib.hid hI
      clear Q F S hI
      by_cases hlt : j < n + T
      · have hlt' : (j : Int) < (n : Int) + (T : Int) := by omega
        have hNz : ((N : Int) == 0) = false := by simp; omega
        have hN0 : (0 : Int) < (N : Int) := by omega
        obtain ⟨m, hm⟩ : ∃ m : Int, (j : Int) % (N : Int) = m := ⟨_, rfl⟩
        have hm2 : Int.tmod (j : Int) (N : Int) = m := by rw [Int.tmod_eq_emod_of_nonneg (by omega)]; exact hm
        by_cases hjn : j < n
        · have hjn' : (j : Int) < (n : Int) := by omega
          have rz := HRD.out.fr HF.out (fun _ _ x => x)
          obtain ⟨zb, zo, rfl, hzb⟩ := rz.plain (by omega)
          have hwf := bounds_u8 (HW.out (zs.getD j EBy.z) (by have := HL.out; simp [List.getD_eq_getElem?_getD, this, hjn]))
          have l0 := rz.by_ hjn
          obtain ⟨y, hy⟩ : ∃ y, zs.getD j EBy.z = y := ⟨_, rfl⟩
          rw [hy] at hwf l0
          obtain ⟨i, hi, hyi⟩ := mod3 y
          have hP3 := HI0.out.put hjn hi (by rw [hy]; exact hyi)
          have HPU : Hid (putB (tri 200 200 200 i) (ls i) ((j : Int), true, 0) = (0, ls i ++ [((j : Int), true, 0)])) := Lib.hid (by
            rw [tri_same]
            have ho := HI0.out.o
            rw [show min j n = j from by omega] at ho
            exact ho.puts hi (c := 200) (by have := tot_le (ls := ls) hi; have := HI0.out.t1; omega))
          have HP : Hid (1 + y % 3 = (i : Int) + 1) := Lib.hid (by omega)
          obtain ⟨ls_, hls⟩ : ∃ l, upd ls i (ls i ++ [((j : Int), true, 0)]) = l := ⟨_, rfl⟩
          rw [hls] at hP3
          have HO1 := Lib.hid hP3.1
          have HC1 := Lib.hid hP3.2.1
          have HT1 := Lib.hid hP3.2.2
          have HLS := Lib.hid hls
          clear hy hyi rz hP3 hls
          by_cases hmz : m = 0
          · have hmz' : (m == 0) = true := by simp [hmz]
            have hmz'' := Lib.hid hmz
            clear hmz
            go_wp2_with fail
            refine (qput_p HQ.out hi HP.out (j : Int) true 0 HPU.out).mono ?_
            rintro e wa ⟨rfl, Qa, Fa⟩
            rw [HLS.out] at Qa
            have HQa := Lib.hid Qa
            have HFa := Lib.hid (HF.out.step Fa HUP.out)
            have HSa : Hid (SeB wa sb ss) := Lib.hid (Fa.at_ HS.out HNS.out)
            have HO : Hid (Onc zs (min (j + 1) n) true ls_) := Lib.hid (by rw [show min (j + 1) n = j + 1 from by omega]; exact HO1.out)
            have HC : Hid (Cn n (min (j + 1) n) ls_ ss) := Lib.hid (by rw [show min (j + 1) n = j + 1 from by omega]; exact HC1.out)
            have HT : Hid (tot ls_ ≤ j + 1) := HT1
            clear Qa Fa HQ HF HS l0
            go_wp2_with fail
            refine (qtake HQa.out).mono fun e wb hh => ?_
            rcases hh with ⟨hemp, rfl, Fb⟩ | ⟨b, x0, x1, x2, l, hb, hl, hab, rfl, Qb, Fb⟩
            · have HQb := Lib.hid (HQa.out.calm Fb)
              have HFb := Lib.hid (HFa.out.step Fb nop)
              have HSb : Hid (SeB wb sb ss) := Lib.hid (Fb.at_ HSa.out (fun x => x))
              have hz0 : tot ls_ = 0 := by unfold tot; rw [hemp 0 (by omega), hemp 1 (by omega), hemp 2 (by omega)]; rfl
              have HI : Hid (BcI zs n (j + 1) ls_ ss) := Lib.hid ⟨HO.out, HC.out, by omega, by omega⟩
              clear Fb hz0 hemp
              have Bz6 : (wb.alloc (.cells #[.int .i64 0, .bool false, .int .i64 0] 30)).heap[wb.heap.size]? = some (.cells #[.int .i64 0, .bool false, .int .i64 0] 30 (0, 0)) := alloc_is _ rfl
              have Fz6 := (Fr.refl (fun _ => False) wb).alloc (.cells #[.int .i64 0, .bool false, .int .i64 0] 30)
              generalize hwm6 : wb.alloc (.cells #[.int .i64 0, .bool false, .int .i64 0] 30) = wm6 at Bz6 Fz6
              obtain ⟨c6_0, c6_1, c6_2⟩ := cells3 Bz6
              have z6_0 := frozen_of Bz6 0
              have z6_1 := frozen_of Bz6 1
              have z6_2 := frozen_of Bz6 2
              have B6 := put3y (y0 := .int .i64 0) (y1 := .bool false) (y2 := .int .i64 0) Bz6
              have Fo6 := (Fr.refl (fun i => i = wb.heap.size) wm6).put3 (b := wb.heap.size) (fun _ => rfl) (.int .i64 0) (.bool false) (.int .i64 0)
              generalize hwo6 : (((wm6.setCell ⟨wb.heap.size, 0, none⟩ (.int .i64 0)).setCell ⟨wb.heap.size, 1, none⟩ (.bool false)).setCell ⟨wb.heap.size, 2, none⟩ (.int .i64 0)) = wo6 at B6 Fo6
              have FF6 := Fz6.trans Fo6 (fun i hi (h : i = wb.heap.size) => by omega)
              obtain ⟨d6_0, d6_1, d6_2⟩ := cells3 B6
              have HQ6 := Lib.hid (HQb.out.calm FF6)
              have HF6 := Lib.hid (HFb.out.step FF6 nop)
              have HS6 : Hid (SeB wo6 sb ss) := Lib.hid (FF6.at_ HSb.out (fun x => x))
              clear FF6 B6
              go_wp2
              go_roundw
              case rel => exact ⟨j + 1, _, _, by go_num, by omega, HI.out, HS6.out, HQ6.out, HF6.out⟩
              case measure => simp [intOf] <;> omega
            · obtain ⟨r, hrP, hx, hz⟩ := HO.out.of_ b hb (x0, x1, x2) (by rw [hl]; exact List.mem_cons_self)
              cases hx
              have hrn : r < n := by omega
              have HQb := Lib.hid Qb
              have HFb := Lib.hid (HFa.out.step Fb HUP.out)
              have HSb : Hid (SeB wb sb ss) := Lib.hid (Fb.at_ HSa.out HNS.out)
              have htt : tot (upd ls_ b l) + 1 = tot ls_ := by have a := tot_upd ls_ hb l; rw [hl] at a; simp only [List.length_cons] at a; omega
              have HI : Hid (BcI zs n (j + 1) (upd ls_ b l) (ss.set r 1)) := Lib.hid ⟨HO.out.tail hb hl, HC.out.take HO.out (by omega) hb hl, by have := HT.out; omega, by have := HT.out; omega⟩
              have hs0 : ss.getD r 0 = 0 := HC.out.a r hrP ⟨b, hb, by rw [hl]; exact List.mem_cons_self⟩
              have HSL : Hid (r < ss.length) := Lib.hid (by rw [HC.out.len]; exact hrn)
              have HS0 := Lib.hid hs0
              clear Qb Fb hs0 htt hl hab hz
              have Bz6 : (wb.alloc (.cells #[.int .i64 0, .bool false, .int .i64 0] 30)).heap[wb.heap.size]? = some (.cells #[.int .i64 0, .bool false, .int .i64 0] 30 (0, 0)) := alloc_is _ rfl
              have Fz6 := (Fr.refl (fun _ => False) wb).alloc (.cells #[.int .i64 0, .bool false, .int .i64 0] 30)
              generalize hwm6 : wb.alloc (.cells #[.int .i64 0, .bool false, .int .i64 0] 30) = wm6 at Bz6 Fz6
              obtain ⟨c6_0, c6_1, c6_2⟩ := cells3 Bz6
              have z6_0 := frozen_of Bz6 0
              have z6_1 := frozen_of Bz6 1
              have z6_2 := frozen_of Bz6 2
              have B6 := put3y (y0 := .int .i64 (r : Int)) (y1 := .bool true) (y2 := .int .i64 0) Bz6
              have Fo6 := (Fr.refl (fun i => i = wb.heap.size) wm6).put3 (b := wb.heap.size) (fun _ => rfl) (.int .i64 (r : Int)) (.bool true) (.int .i64 0)
              generalize hwo6 : (((wm6.setCell ⟨wb.heap.size, 0, none⟩ (.int .i64 (r : Int))).setCell ⟨wb.heap.size, 1, none⟩ (.bool true)).setCell ⟨wb.heap.size, 2, none⟩ (.int .i64 0)) = wo6 at B6 Fo6
              have FF6 := Fz6.trans Fo6 (fun i hi (h : i = wb.heap.size) => by omega)
              obtain ⟨d6_0, d6_1, d6_2⟩ := cells3 B6
              have HQ6 := Lib.hid (HQb.out.calm FF6)
              have HF6 := Lib.hid (HFb.out.step FF6 nop)
              have HS6 : Hid (SeB wo6 sb ss) := Lib.hid (FF6.at_ HSb.out (fun x => x))
              have hr' : (r : Int) < (n : Int) := by omega
              have u0 := HS6.out.cell HSL.out HS0.out
              have uz := frozen_of HS6.out r
              have HS7 := Lib.hid (HS6.out.set HSL.out 1)
              have F7 := (Fr.refl (fun k => k = sb) wo6).setCell (p := ⟨sb, r, none⟩) (fun _ => rfl) (.int .i64 1)
              have HQ7 := Lib.hid (HQ6.out.fr F7 (fun k hk e => HNS.out (e ▸ hk)))
              have HF7 := Lib.hid (HF6.out.step F7 (fun k e => by have := HWS.out; omega))
              clear FF6 B6 F7
              go_wp2
              go_roundw
              case rel => exact ⟨j + 1, _, _, by go_num, by omega, HI.out, HS7.out, HQ7.out, HF7.out⟩
              case measure => simp [intOf] <;> omega
          · have hmz' : (m == 0) = false := by simp [hmz]
            clear hmz
            go_wp2_with fail
            refine (qput_p HQ.out hi HP.out (j : Int) true 0 HPU.out).mono ?_
            rintro e wa ⟨rfl, Qa, Fa⟩
            rw [HLS.out] at Qa
            have HQa := Lib.hid Qa
            have HFa := Lib.hid (HF.out.step Fa HUP.out)
            have HSa : Hid (SeB wa sb ss) := Lib.hid (Fa.at_ HS.out HNS.out)
            have HI : Hid (BcI zs n (j + 1) ls_ ss) := Lib.hid ⟨by rw [show min (j + 1) n = j + 1 from by omega]; exact HO1.out, by rw [show min (j + 1) n = j + 1 from by omega]; exact HC1.out, by have := HT1.out; omega, by have := HT1.out; omega⟩
            clear Qa Fa HQ HF HS l0
            go_wp2
            go_roundw
            case rel => exact ⟨j + 1, _, _, by go_num, by omega, HI.out, HSa.out, HQa.out, HFa.out⟩
            case measure => simp [intOf] <;> omega
        · have hjn' : ¬ (j : Int) < (n : Int) := by omega
          have hjd : decide ((n : Int) ≤ (j : Int)) = true := by simp; omega
          have hjd2 : decide ((j : Int) < (n : Int)) = false := by simp; omega
          obtain ⟨ls_, hls⟩ : ∃ l, ls = l := ⟨_, rfl⟩
          subst hls
          have HQa := HQ
          have HFa := HF
          have HSa := HS
          have HO : Hid (Onc zs (min (j + 1) n) true ls) := Lib.hid (by have := HI0.out.o; rw [show min j n = min (j + 1) n from by omega] at this; exact this)
          have HC : Hid (Cn n (min (j + 1) n) ls ss) := Lib.hid (by have := HI0.out.c; rw [show min j n = min (j + 1) n from by omega] at this; exact this)
          have HT : Hid (tot ls ≤ n ∧ tot ls ≤ n - (j - n)) := Lib.hid ⟨by have := HI0.out.t1; omega, HI0.out.t2⟩
          by_cases hmz : m = 0
          · have hmz' : (m == 0) = true := by simp [hmz]
            have hmz'' := Lib.hid hmz
            clear hmz
            go_wp2_with fail
            refine (qtake HQa.out).mono fun e wb hh => ?_
            rcases hh with ⟨hemp, rfl, Fb⟩ | ⟨b, x0, x1, x2, l, hb, hl, hab, rfl, Qb, Fb⟩
            · have HQb := Lib.hid (HQa.out.calm Fb)
              have HFb := Lib.hid (HFa.out.step Fb nop)
              have HSb : Hid (SeB wb sb ss) := Lib.hid (Fb.at_ HSa.out (fun x => x))
              have hz0 : tot ls = 0 := by unfold tot; rw [hemp 0 (by omega), hemp 1 (by omega), hemp 2 (by omega)]; rfl
              have HI : Hid (BcI zs n (j + 1) ls ss) := Lib.hid ⟨HO.out, HC.out, by omega, by omega⟩
              clear Fb hz0 hemp
              have Bz6 : (wb.alloc (.cells #[.int .i64 0, .bool false, .int .i64 0] 30)).heap[wb.heap.size]? = some (.cells #[.int .i64 0, .bool false, .int .i64 0] 30 (0, 0)) := alloc_is _ rfl
              have Fz6 := (Fr.refl (fun _ => False) wb).alloc (.cells #[.int .i64 0, .bool false, .int .i64 0] 30)
              generalize hwm6 : wb.alloc (.cells #[.int .i64 0, .bool false, .int .i64 0] 30) = wm6 at Bz6 Fz6
              obtain ⟨c6_0, c6_1, c6_2⟩ := cells3 Bz6
              have z6_0 := frozen_of Bz6 0
              have z6_1 := frozen_of Bz6 1
              have z6_2 := frozen_of Bz6 2
              have B6 := put3y (y0 := .int .i64 0) (y1 := .bool false) (y2 := .int .i64 0) Bz6
              have Fo6 := (Fr.refl (fun i => i = wb.heap.size) wm6).put3 (b := wb.heap.size) (fun _ => rfl) (.int .i64 0) (.bool false) (.int .i64 0)
              generalize hwo6 : (((wm6.setCell ⟨wb.heap.size, 0, none⟩ (.int .i64 0)).setCell ⟨wb.heap.size, 1, none⟩ (.bool false)).setCell ⟨wb.heap.size, 2, none⟩ (.int .i64 0)) = wo6 at B6 Fo6
              have FF6 := Fz6.trans Fo6 (fun i hi (h : i = wb.heap.size) => by omega)
              obtain ⟨d6_0, d6_1, d6_2⟩ := cells3 B6
              have HQ6 := Lib.hid (HQb.out.calm FF6)
              have HF6 := Lib.hid (HFb.out.step FF6 nop)
              have HS6 : Hid (SeB wo6 sb ss) := Lib.hid (FF6.at_ HSb.out (fun x => x))
              clear FF6 B6
              go_wp2
              go_roundw
              case rel => exact ⟨j + 1, _, _, by go_num, by omega, HI.out, HS6.out, HQ6.out, HF6.out⟩
              case measure => simp [intOf] <;> omega
            · obtain ⟨r, hrP, hx, hz⟩ := HO.out.of_ b hb (x0, x1, x2) (by rw [hl]; exact List.mem_cons_self)
              cases hx
              have hrn : r < n := by omega
              have HQb := Lib.hid Qb
              have HFb := Lib.hid (HFa.out.step Fb HUP.out)
              have HSb : Hid (SeB wb sb ss) := Lib.hid (Fb.at_ HSa.out HNS.out)
              have htt : tot (upd ls b l) + 1 = tot ls := by have a := tot_upd ls hb l; rw [hl] at a; simp only [List.length_cons] at a; omega
              have HI : Hid (BcI zs n (j + 1) (upd ls b l) (ss.set r 1)) := Lib.hid ⟨HO.out.tail hb hl, HC.out.take HO.out (by omega) hb hl, by have := HT.out; omega, by have := HT.out; omega⟩
              have hs0 : ss.getD r 0 = 0 := HC.out.a r hrP ⟨b, hb, by rw [hl]; exact List.mem_cons_self⟩
              have HSL : Hid (r < ss.length) := Lib.hid (by rw [HC.out.len]; exact hrn)
              have HS0 := Lib.hid hs0
              clear Qb Fb hs0 htt hl hab hz
              have Bz6 : (wb.alloc (.cells #[.int .i64 0, .bool false, .int .i64 0] 30)).heap[wb.heap.size]? = some (.cells #[.int .i64 0, .bool false, .int .i64 0] 30 (0, 0)) := alloc_is _ rfl
              have Fz6 := (Fr.refl (fun _ => False) wb).alloc (.cells #[.int .i64 0, .bool false, .int .i64 0] 30)
              generalize hwm6 : wb.alloc (.cells #[.int .i64 0, .bool false, .int .i64 0] 30) = wm6 at Bz6 Fz6
              obtain ⟨c6_0, c6_1, c6_2⟩ := cells3 Bz6
              have z6_0 := frozen_of Bz6 0
              have z6_1 := frozen_of Bz6 1
              have z6_2 := frozen_of Bz6 2
              have B6 := put3y (y0 := .int .i64 (r : Int)) (y1 := .bool true) (y2 := .int .i64 0) Bz6
              have Fo6 := (Fr.refl (fun i => i = wb.heap.size) wm6).put3 (b := wb.heap.size) (fun _ => rfl) (.int .i64 (r : Int)) (.bool true) (.int .i64 0)
              generalize hwo6 : (((wm6.setCell ⟨wb.heap.size, 0, none⟩ (.int .i64 (r : Int))).setCell ⟨wb.heap.size, 1, none⟩ (.bool true)).setCell ⟨wb.heap.size, 2, none⟩ (.int .i64 0)) = wo6 at B6 Fo6
              have FF6 := Fz6.trans Fo6 (fun i hi (h : i = wb.heap.size) => by omega)
              obtain ⟨d6_0, d6_1, d6_2⟩ := cells3 B6
              have HQ6 := Lib.hid (HQb.out.calm FF6)
              have HF6 := Lib.hid (HFb.out.step FF6 nop)
              have HS6 : Hid (SeB wo6 sb ss) := Lib.hid (FF6.at_ HSb.out (fun x => x))
              have hr' : (r : Int) < (n : Int) := by omega
              have u0 := HS6.out.cell HSL.out HS0.out
              have uz := frozen_of HS6.out r
              have HS7 := Lib.hid (HS6.out.set HSL.out 1)
              have F7 := (Fr.refl (fun k => k = sb) wo6).setCell (p := ⟨sb, r, none⟩) (fun _ => rfl) (.int .i64 1)
              have HQ7 := Lib.hid (HQ6.out.fr F7 (fun k hk e => HNS.out (e ▸ hk)))
              have HF7 := Lib.hid (HF6.out.step F7 (fun k e => by have := HWS.out; omega))
              clear FF6 B6 F7
              go_wp2
              go_roundw
              case rel => exact ⟨j + 1, _, _, by go_num, by omega, HI.out, HS7.out, HQ7.out, HF7.out⟩
              case measure => simp [intOf] <;> omega
          · have hmz' : (m == 0) = false := by simp [hmz]
            clear hmz
            go_wp2_with fail
            refine (qtake HQa.out).mono fun e wb hh => ?_
            rcases hh with ⟨hemp, rfl, Fb⟩ | ⟨b, x0, x1, x2, l, hb, hl, hab, rfl, Qb, Fb⟩
            · have HQb := Lib.hid (HQa.out.calm Fb)
              have HFb := Lib.hid (HFa.out.step Fb nop)
              have HSb : Hid (SeB wb sb ss) := Lib.hid (Fb.at_ HSa.out (fun x => x))
              have hz0 : tot ls = 0 := by unfold tot; rw [hemp 0 (by omega), hemp 1 (by omega), hemp 2 (by omega)]; rfl
              have HI : Hid (BcI zs n (j + 1) ls ss) := Lib.hid ⟨HO.out, HC.out, by omega, by omega⟩
              clear Fb hz0 hemp
              have Bz6 : (wb.alloc (.cells #[.int .i64 0, .bool false, .int .i64 0] 30)).heap[wb.heap.size]? = some (.cells #[.int .i64 0, .bool false, .int .i64 0] 30 (0, 0)) := alloc_is _ rfl
              have Fz6 := (Fr.refl (fun _ => False) wb).alloc (.cells #[.int .i64 0, .bool false, .int .i64 0] 30)
              generalize hwm6 : wb.alloc (.cells #[.int .i64 0, .bool false, .int .i64 0] 30) = wm6 at Bz6 Fz6
              obtain ⟨c6_0, c6_1, c6_2⟩ := cells3 Bz6
              have z6_0 := frozen_of Bz6 0
              have z6_1 := frozen_of Bz6 1
              have z6_2 := frozen_of Bz6 2
              have B6 := put3y (y0 := .int .i64 0) (y1 := .bool false) (y2 := .int .i64 0) Bz6
              have Fo6 := (Fr.refl (fun i => i = wb.heap.size) wm6).put3 (b := wb.heap.size) (fun _ => rfl) (.int .i64 0) (.bool false) (.int .i64 0)
              generalize hwo6 : (((wm6.setCell ⟨wb.heap.size, 0, none⟩ (.int .i64 0)).setCell ⟨wb.heap.size, 1, none⟩ (.bool false)).setCell ⟨wb.heap.size, 2, none⟩ (.int .i64 0)) = wo6 at B6 Fo6
              have FF6 := Fz6.trans Fo6 (fun i hi (h : i = wb.heap.size) => by omega)
              obtain ⟨d6_0, d6_1, d6_2⟩ := cells3 B6
              have HQ6 := Lib.hid (HQb.out.calm FF6)
              have HF6 := Lib.hid (HFb.out.step FF6 nop)
              have HS6 : Hid (SeB wo6 sb ss) := Lib.hid (FF6.at_ HSb.out (fun x => x))
              clear FF6 B6
              go_wp2
              go_roundw
              case rel => exact ⟨j + 1, _, _, by go_num, by omega, HI.out, HS6.out, HQ6.out, HF6.out⟩
              case measure => simp [intOf] <;> omega
            · obtain ⟨r, hrP, hx, hz⟩ := HO.out.of_ b hb (x0, x1, x2) (by rw [hl]; exact List.mem_cons_self)
              cases hx
              have hrn : r < n := by omega
              have HQb := Lib.hid Qb
              have HFb := Lib.hid (HFa.out.step Fb HUP.out)
              have HSb : Hid (SeB wb sb ss) := Lib.hid (Fb.at_ HSa.out HNS.out)
              have htt : tot (upd ls b l) + 1 = tot ls := by have a := tot_upd ls hb l; rw [hl] at a; simp only [List.length_cons] at a; omega
              have HI : Hid (BcI zs n (j + 1) (upd ls b l) (ss.set r 1)) := Lib.hid ⟨HO.out.tail hb hl, HC.out.take HO.out (by omega) hb hl, by have := HT.out; omega, by have := HT.out; omega⟩
              have hs0 : ss.getD r 0 = 0 := HC.out.a r hrP ⟨b, hb, by rw [hl]; exact List.mem_cons_self⟩
              have HSL : Hid (r < ss.length) := Lib.hid (by rw [HC.out.len]; exact hrn)
              have HS0 := Lib.hid hs0
              clear Qb Fb hs0 htt hl hab hz
              have Bz6 : (wb.alloc (.cells #[.int .i64 0, .bool false, .int .i64 0] 30)).heap[wb.heap.size]? = some (.cells #[.int .i64 0, .bool false, .int .i64 0] 30 (0, 0)) := alloc_is _ rfl
              have Fz6 := (Fr.refl (fun _ => False) wb).alloc (.cells #[.int .i64 0, .bool false, .int .i64 0] 30)
              generalize hwm6 : wb.alloc (.cells #[.int .i64 0, .bool false, .int .i64 0] 30) = wm6 at Bz6 Fz6
              obtain ⟨c6_0, c6_1, c6_2⟩ := cells3 Bz6
              have z6_0 := frozen_of Bz6 0
              have z6_1 := frozen_of Bz6 1
              have z6_2 := frozen_of Bz6 2
              have B6 := put3y (y0 := .int .i64 (r : Int)) (y1 := .bool true) (y2 := .int .i64 0) Bz6
              have Fo6 := (Fr.refl (fun i => i = wb.heap.size) wm6).put3 (b := wb.heap.size) (fun _ => rfl) (.int .i64 (r : Int)) (.bool true) (.int .i64 0)
              generalize hwo6 : (((wm6.setCell ⟨wb.heap.size, 0, none⟩ (.int .i64 (r : Int))).setCell ⟨wb.heap.size, 1, none⟩ (.bool true)).setCell ⟨wb.heap.size, 2, none⟩ (.int .i64 0)) = wo6 at B6 Fo6
              have FF6 := Fz6.trans Fo6 (fun i hi (h : i = wb.heap.size) => by omega)
              obtain ⟨d6_0, d6_1, d6_2⟩ := cells3 B6
              have HQ6 := Lib.hid (HQb.out.calm FF6)
              have HF6 := Lib.hid (HFb.out.step FF6 nop)
              have HS6 : Hid (SeB wo6 sb ss) := Lib.hid (FF6.at_ HSb.out (fun x => x))
              have hr' : (r : Int) < (n : Int) := by omega
              have u0 := HS6.out.cell HSL.out HS0.out
              have uz := frozen_of HS6.out r
              have HS7 := Lib.hid (HS6.out.set HSL.out 1)
              have F7 := (Fr.refl (fun k => k = sb) wo6).setCell (p := ⟨sb, r, none⟩) (fun _ => rfl) (.int .i64 1)
              have HQ7 := Lib.hid (HQ6.out.fr F7 (fun k hk e => HNS.out (e ▸ hk)))
              have HF7 := Lib.hid (HF6.out.step F7 (fun k e => by have := HWS.out; omega))
              clear FF6 B6 F7
              go_wp2
              go_roundw
              case rel => exact ⟨j + 1, _, _, by go_num, by omega, HI.out, HS7.out, HQ7.out, HF7.out⟩
              case measure => simp [intOf] <;> omega
      · have h3 : ¬ (j : Int) < (n : Int) + (T : Int) := by omega
        have h0 : tot ls = 0 := by have := HI0.out.t2; omega
        have hone : ∀ r, r < n → ss.getD r 0 = 1 := fun r hrn => HI0.out.c.b r (by omega) (by rintro ⟨b, hb, hm⟩; rw [empty_of h0 b hb] at hm; cases hm)
        have HONE := Lib.hid hone
        have HSL := Lib.hid HI0.out.c.len
        have HT0 : Hid ((ls 0).length + (ls 1).length + (ls 2).length = 0) := Lib.hid h0
        have HEM := Lib.hid (empty_of h0)
        have HRS : Hid (BcS W sb ss q qs ls n (.int .i64 0) wr) := Lib.hid ⟨0, rfl, Nat.zero_le _, HS.out, HQ.out, HF.out⟩
        clear HS HQ HF HI0 h0 hone
        go_wp2_with fail
        go_loopw [12] (fun v wr => BcS W sb ss q qs ls n v wr) (fun v _ => n - (intOf v).toNat)
        case atStart => exact HRS.out
        case round =>
          clear HRS
          obtain ⟨k, rfl, hk, S, Q, F⟩ := hrel
          by_cases hkn : k < n
          · have hkn' : (k : Int) < (n : Int) := by omega
            have u0 := S.cell (by rw [HSL.out]; exact hkn) (HONE.out k hkn)
            have HQ := Lib.hid Q
            have HF := Lib.hid F
            have HS := Lib.hid S
            clear Q F S
            go_wp2
            go_roundw
            case rel => exact ⟨k + 1, by go_num, by omega, HS.out, HQ.out, HF.out⟩
            case measure => simp [intOf] <;> omega
          · have h4 : ¬ (k : Int) < (n : Int) := by omega
            have HF := Lib.hid F
            have HLN := Lib.hid (qlen Q (fun i hi => by rw [HEM.out i hi]; simp))
            rw [HT0.out] at HLN
            clear Q F S
            go_wp2_with fail
            refine HLN.out.mono ?_
            rintro e w5 ⟨rfl, rfl⟩
            go_wp2
            go_ret
            exact ⟨rfl, HF.out.below⟩
  · have e0 : (100 : Int) < (n : Int) := by omega
    go_enter Try.func5, Try.ntmps5
    go_wp2_with fail
    refine (first_any _).mono ?_
    rintro e w1 ⟨rfl, F1⟩
    go_wp2_with fail
    refine (first_any _).mono ?_
    rintro e w2 ⟨rfl, F2⟩
    have HF := Lib.hid (F1.step F2 nop)
    go_wp2
    go_ret
    exact ⟨rfl, HF.out.below⟩

end Go.Proofs.Ytcpapadkdeajaaa
