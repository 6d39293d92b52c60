/- Bs. -/
import Derived.Test.YtcpapadkdeajaaaChecked
import Derived.WalkKit
import Derived.Laws.IdiomCopy
import Derived.Deep.QuietTactic
import Derived.BigQuiet
import Derived.Lib.Hide
import Derived.OpenShut
import Derived.StillTailTactics
import Derived.Deep.RegionWith
import Derived.Deep.RegionLaw
import Derived.Deep.Slices
import Derived.Deep.RegionHeld3
import Derived.OwnWalk
import Derived.Test.YtcpapadkdeajaaaBase
import Derived.Test.YtcpapadkdeajaaaCalm
import Derived.Test.YtcpapadkdeajaaaCalmT
import Derived.Test.YtcpapadkdeajaaaCel
import Derived.Test.YtcpapadkdeajaaaApp
import Derived.Test.YtcpapadkdeajaaaRE
import Derived.Test.YtcpapadkdeajaaaREB
import Derived.Test.YtcpapadkdeajaaaREC
import Derived.Test.YtcpapadkdeajaaaREA
import Derived.Test.YtcpapadkdeajaaaBq
import Derived.Test.YtcpapadkdeajaaaBp
import Derived.Test.YtcpapadkdeajaaaBx
import Derived.Test.YtcpapadkdeajaaaBn
namespace Go.Proofs.Ytcpapadkdeajaaa
open Go.RowKit
set_option linter.unusedVariables false
set_option linter.unusedSimpArgs false

/-! ### BandStays -/
theorem upd_upd {α : Type} (f : Nat → α) (i : Nat) (x y : α) : upd (upd f i x) i y = upd f i y := by
  funext k
  by_cases h : k = i
  · rw [h, upd_same, upd_same]
  · rw [upd_ne _ h, upd_ne _ h, upd_ne _ h]
def no_ : Nat → List Ev := fun _ => []
/-- The k-th is the event of rule k. -/
def Num (l : List Ev) : Prop := ∀ m, m < l.length → (l.getD m RE.E.z).1 = (m : Int)
def evk (m : Nat) : List Ev := (List.range m).map (fun j : Nat => (((j : Int), false, 0) : Ev))
theorem evk_len (m : Nat) : (evk m).length = m := by simp [evk]
theorem evk_num (m : Nat) : Num (evk m) := by
  intro j hj
  rw [evk_len] at hj
  simp [evk, List.getD_eq_getElem?_getD, hj]
theorem evk_succ (m : Nat) : evk (m + 1) = evk m ++ [((m : Int), false, 0)] := by simp [evk, List.range_succ]
theorem Num.hit {l : List Ev} (h : Num l) {r : Nat} (hr : r < l.length) : fi (r : Int) l = r :=
  fi_hit hr (h r hr) (fun m hm e => by rw [h m (by omega)] at e; omega)
theorem Num.miss {l : List Ev} (h : Num l) {r : Nat} (hr : l.length ≤ r) : fi (r : Int) l = l.length :=
  fi_miss (fun m hm e => by rw [h m hm] at e; omega)
theorem Num.set {l : List Ev} (h : Num l) {r : Nat} {x : Ev} (hx : x.1 = (r : Int)) : Num (l.set r x) := by
  intro m hm
  rw [List.length_set] at hm
  by_cases e : m = r
  · subst e; rw [getD_set_same _ _ _ _ hm]; exact hx
  · rw [getD_set_ne _ _ _ _ _ (Ne.symm e)]; exact h m hm
theorem Num.new {l : List Ev} (h : Num l) {c : Nat} (hc : l.length < c) : putB c l ((l.length : Int), false, 0) = (0, l ++ [((l.length : Int), false, 0)]) := by
  unfold putB
  rw [if_neg (by show ¬ fi (l.length : Int) l < _; rw [h.miss (Nat.le_refl _)]; omega), if_pos hc]
theorem Num.full {l : List Ev} (h : Num l) {c r : Nat} (hc : l.length = c) (hr : c ≤ r) : putB c l ((r : Int), false, 0) = (6, l) := by
  unfold putB
  rw [if_neg (by show ¬ fi (r : Int) l < _; rw [h.miss (by omega)]; omega), if_neg (by omega)]
theorem Num.again {l : List Ev} (h : Num l) {c r : Nat} (hr : r < l.length) (o : Bool) (t : Int) : putB c l ((r : Int), o, t) = (0, l.set r ((r : Int), o, t)) := by
  unfold putB
  rw [if_pos (by show fi (r : Int) l < _; rw [h.hit hr]; exact hr), show fi (((r : Int), o, t) : Ev).1 l = r from h.hit hr]
def BsP (W : World) (q : Nat) (qs : Nat → Nat × Nat) (K i : Nat) (v : Value) (wr : World) : Prop :=
  ∃ j : Nat, v = .int .i64 j ∧ j ≤ K ∧ Qu wr q qs (tri K K K) (upd no_ i (evk j)) ∧ Fr (fun _ => False) W wr
def BsT (W : World) (q : Nat) (qs : Nat → Nat × Nat) (K i eb r : Nat) (on : Bool) (now : Int) (l : List Ev) (v : Value) (wr : World) : Prop :=
  ∃ j : Nat, v = .int .i64 j ∧ j ≤ K ∧ Qu wr q qs (tri K K K) (upd no_ i (l.drop j)) ∧ wr.heap[eb]? = some (.cells #[.int .i64 r, .bool on, .int .i64 now] 30 (0, 0)) ∧ Fr (fun _ => False) W wr
set_option maxRecDepth 100000 in
set_option maxHeartbeats 8000000 in
theorem BandStays_walk (n at_ : Int) (on : Bool) (now p : Int) (W : World) (w0 : (Lit.int .u8 n).wf = true) (w1 : (Lit.int .u8 at_).wf = true) (w2 : (Lit.int .i64 now).wf = true) (w3 : (Lit.int .u8 p).wf = true) :
    Calls Try.prog 4 #[.int .u8 n, .int .u8 at_, .bool on, .int .i64 now, .int .u8 p] W fun e w' => e = .returned (.bool true) ∧ Below W.heap.size W w' := by
  have hn := bounds_u8 w0
  have ha := bounds_u8 w1
  have hp := bounds_u8 w3
  clear w0 w1 w2 w3
  obtain ⟨K, hK⟩ : ∃ K : Nat, 1 + n % 20 = (K : Int) := ⟨(1 + n % 20).toNat, by omega⟩
  obtain ⟨i, hi, hpi⟩ := mod3 p
  have hK1 : 1 ≤ K ∧ K ≤ 20 := by omega
  obtain ⟨r, hr⟩ : ∃ r : Nat, at_ % (K : Int) = (r : Int) := ⟨(at_ % (K : Int)).toNat, by have := Int.emod_nonneg at_ (show (K : Int) ≠ 0 by omega); omega⟩
  have hrK : r < K := by have := Int.emod_lt_of_pos at_ (show 0 < (K : Int) by omega); omega
  have HK := Lib.hid hK
  have HR := Lib.hid hr
  have HP : Hid (1 + p % 3 = (i : Int) + 1) := Lib.hid (by omega)
  have HK1 := Lib.hid hK1
  have HRK := Lib.hid hrK
  clear hK hr hpi hK1 hrK
  go_enter Try.func4, Try.ntmps4
  go_wp2_with fail
  refine (first_any _).mono ?_
  rintro e w1 ⟨rfl, F1⟩
  go_wp2_with fail
  rw [HK.out, HP.out]
  refine (qnew _ _ _ _).mono ?_
  rintro e w2 ⟨q, qs, rfl, Q2, F2, hup0⟩
  rw [room_nat (by have := HK1.out; omega)] at Q2
  have HUP : Hid (∀ k, inQ q qs k → W.heap.size ≤ k) := Lib.hid (fun k hk => Nat.le_trans F1.size (hup0 k hk))
  have HRL : Hid (BsP W q qs K i (.int .i64 0) w2) := Lib.hid ⟨0, rfl, Nat.zero_le _, by rw [show upd no_ i (evk 0) = no_ from by rw [show evk 0 = no_ i from rfl, upd_id]]; exact Q2, F1.step F2 nop⟩
  clear Q2 F1 F2 hup0
  have hi3 : (i : Int) + 1 ≤ 3 := by omega
  go_wp2_with fail
  go_loopw [14] (fun v wr => BsP W q qs K i v wr) (fun v _ => K - (intOf v).toNat)
  case atStart => exact HRL.out
  case round =>
    clear HRL
    obtain ⟨j, rfl, hj, Q, F⟩ := hrel
    have HQ := Lib.hid Q
    have HF := Lib.hid F
    clear Q F
    by_cases hlt : j < K
    · have hlt' : (j : Int) < (K : Int) := by omega
      have hj20 : j < 20 := by have := HK1.out; omega
      have HPU : Hid (putB (tri K K K i) (upd no_ i (evk j) i) ((j : Int), false, 0) = (0, evk (j + 1))) := Lib.hid (by
        rw [tri_same, upd_same, evk_succ]
        have := (evk_num j).new (c := K) (by rw [evk_len]; exact hlt)
        rw [evk_len] at this; exact this)
      go_wp2_with fail
      refine (qput HQ.out hi (j : Int) false 0 HPU.out).mono ?_
      rintro e w3 ⟨rfl, Q3, F3⟩
      rw [upd_upd] at Q3
      have HQ3 := Lib.hid Q3
      have HF3 := Lib.hid (HF.out.step F3 HUP.out)
      clear Q3 F3 HQ HF
      go_wp2
      go_roundw
      case rel => exact ⟨j + 1, by go_num, by omega, HQ3.out, HF3.out⟩
      case measure => simp [intOf] <;> omega
    · have h3 : ¬ (j : Int) < (K : Int) := by omega
      obtain rfl : j = K := by omega
      clear hlt
      have hj0 : (0 : Int) < (j : Int) := by have := HK1.out; omega
      have e1 : ((j : Int) == 0) = false := by have := HK1.out; simp; omega
      have e2 : Int.tmod at_ (j : Int) = (r : Int) := by rw [Int.tmod_eq_emod_of_nonneg ha.1]; exact HR.out
      have e3 : at_ % (j : Int) = (r : Int) := HR.out
      have Bz5 : (wr.alloc (.cells #[.int .i64 0, .bool false, .int .i64 0] 30)).heap[wr.heap.size]? = some (.cells #[.int .i64 0, .bool false, .int .i64 0] 30 (0, 0)) := alloc_is _ rfl
      have Fz5 := (Fr.refl (fun _ => False) wr).alloc (.cells #[.int .i64 0, .bool false, .int .i64 0] 30)
      generalize hwm5 : wr.alloc (.cells #[.int .i64 0, .bool false, .int .i64 0] 30) = wm5 at Bz5 Fz5
      obtain ⟨c5_0, c5_1, c5_2⟩ := cells3 Bz5
      have z5_0 := frozen_of Bz5 0
      have z5_1 := frozen_of Bz5 1
      have z5_2 := frozen_of Bz5 2
      have B5 := put3y (y0 := .int .i64 (r : Int)) (y1 := .bool on) (y2 := .int .i64 now) Bz5
      have Fo5 := (Fr.refl (fun i => i = wr.heap.size) wm5).put3 (b := wr.heap.size) (fun _ => rfl) (.int .i64 (r : Int)) (.bool on) (.int .i64 now)
      generalize hwo5 : (((wm5.setCell ⟨wr.heap.size, 0, none⟩ (.int .i64 (r : Int))).setCell ⟨wr.heap.size, 1, none⟩ (.bool on)).setCell ⟨wr.heap.size, 2, none⟩ (.int .i64 now)) = wo5 at B5 Fo5
      have FF5 := Fz5.trans Fo5 (fun i hi (h : i = wr.heap.size) => by omega)
      obtain ⟨d5_0, d5_1, d5_2⟩ := cells3 B5
      have HB5 := Lib.hid B5
      have HQ5 := Lib.hid (HQ.out.calm FF5)
      have HF5 := Lib.hid (HF.out.step FF5 nop)
      have HNB : Hid (¬ inQ q qs wr.heap.size) := Lib.hid (fun hh => by have := HQ.out.in_ hh; omega)
      have HWB : Hid (W.heap.size ≤ wr.heap.size) := Lib.hid HF.out.size
      have HNU := Lib.hid ((evk_num j).set (r := r) (x := ((r : Int), on, now)) rfl)
      have HP1 : Hid (putB (tri j j j i) (upd no_ i (evk j) i) ((r : Int), on, now) = (0, (evk j).set r ((r : Int), on, now))) := Lib.hid (by
        rw [tri_same, upd_same]
        exact (evk_num j).again (by rw [evk_len]; exact HRK.out) on now)
      obtain ⟨l, hl⟩ : ∃ l, (evk j).set r ((r : Int), on, now) = l := ⟨_, rfl⟩
      have HLL : Hid (l.length = j ∧ l.getD r RE.E.z = ((r : Int), on, now)) := Lib.hid (by
        rw [← hl]
        exact ⟨by rw [List.length_set, evk_len], getD_set_same _ _ _ _ (by rw [evk_len]; exact HRK.out)⟩)
      rw [hl] at HNU HP1
      clear hl FF5
      have HP2 : Hid (putB (tri j j j i) (upd no_ i l i) ((j : Int), false, 0) = (6, l)) := Lib.hid (by
        rw [tri_same, upd_same]
        exact HNU.out.full HLL.out.1 (Nat.le_refl _))
      go_wp2_with fail
      refine (qput HQ5.out hi (r : Int) on now HP1.out).mono ?_
      rintro e w6 ⟨rfl, Q6, F6⟩
      clear c5_0 z5_0 c5_1 z5_1 c5_2 z5_2 d5_0 d5_1 d5_2 Bz5 Fz5 Fo5 hwm5 hwo5
      rw [upd_upd] at Q6
      have HQ6 := Lib.hid Q6
      have HF6 := Lib.hid (HF5.out.step F6 HUP.out)
      have HB6 := Lib.hid (F6.at_ HB5.out HNB.out)
      clear Q6 F6 HQ5 HF5 HB5 B5 e1 e2 e3 HQ HF
      go_wp2_with fail
      refine (qput HQ6.out hi (j : Int) false 0 HP2.out).mono ?_
      rintro e w7 ⟨rfl, Q7, F7⟩
      rw [upd_upd] at Q7
      replace Q7 : Qu w7 q qs (tri j j j) (upd no_ i l) := Q7
      have HQ7 := Lib.hid Q7
      have HF7 := Lib.hid (HF6.out.step F7 HUP.out)
      have HB7 := Lib.hid (F7.at_ HB6.out HNB.out)
      clear Q7 F7 HQ6 HF6 HB6
      have htt : tot (upd no_ i l) = j := by
        have := tot_upd no_ hi l
        rw [HLL.out.1] at this
        have h0 : tot no_ = 0 := rfl
        have h1 : (no_ i).length = 0 := rfl
        omega
      have HLN := Lib.hid (qlen HQ7.out (fun m hm => by have := tot_le (ls := upd no_ i l) hm; have := HK1.out; omega))
      rw [show ((upd no_ i l 0).length + (upd no_ i l 1).length + (upd no_ i l 2).length) = j from htt] at HLN
      clear htt
      go_wp2_with fail
      refine HLN.out.mono ?_
      rintro e w8 ⟨rfl, rfl⟩
      have HRT : Hid (BsT W q qs j i wr.heap.size r on now l (.int .i64 0) w7) := Lib.hid ⟨0, rfl, Nat.zero_le _, HQ7.out, HB7.out, HF7.out⟩
      clear HQ7 HF7 HB7 HLN
      obtain ⟨eb, heb⟩ : ∃ eb, wr.heap.size = eb := ⟨_, rfl⟩
      rw [heb] at HRT HNB HWB
      go_wp2_with fail
      try rw [heb]
      clear heb
      go_loopw [16] (fun v wr => BsT W q qs j i eb r on now l v wr) (fun v _ => j - (intOf v).toNat)
      case atStart => exact HRT.out
      case round =>
        clear HRT
        obtain ⟨m, rfl, hm, Q, B, F⟩ := hrel
        have HQ := Lib.hid Q
        have HF := Lib.hid F
        have HB := Lib.hid B
        clear Q F B
        by_cases hlt : m < j
        · have hlt' : (m : Int) < (j : Int) := by omega
          have hm20 : m < 20 := by have := HK1.out; omega
          obtain ⟨x, hx⟩ : ∃ x, l.getD m RE.E.z = x := ⟨_, rfl⟩
          have hml : m < l.length := by have := HLL.out.1; omega
          have hx1 := HNU.out m hml
          rw [hx] at hx1
          obtain ⟨x0, x1, x2⟩ := x
          simp only at hx1
          subst hx1
          have HDR : Hid (upd no_ i (l.drop m) i = ((m : Int), x1, x2) :: l.drop (m + 1)) := Lib.hid (by
            rw [upd_same, List.drop_eq_getElem_cons hml]
            rw [List.getD_eq_getElem?_getD, List.getElem?_eq_getElem hml] at hx
            rw [show l[m] = ((m : Int), x1, x2) from hx])
          have HX := Lib.hid hx
          clear hx hml
          go_wp2_with fail
          refine (qtake_at HQ.out hi HDR.out (fun a h1 h2 => by rw [upd_ne _ (by omega)]; rfl) (p := (i : Int) + 1) rfl).mono ?_
          rintro e w9 ⟨rfl, Q9, F9⟩
          rw [upd_upd] at Q9
          have HQ9 := Lib.hid Q9
          have HF9 := Lib.hid (HF.out.step F9 HUP.out)
          have HB9 := Lib.hid (F9.at_ HB.out HNB.out)
          clear Q9 F9 HQ HF HB
          have Bz6 : (w9.alloc (.cells #[.int .i64 0, .bool false, .int .i64 0] 30)).heap[w9.heap.size]? = some (.cells #[.int .i64 0, .bool false, .int .i64 0] 30 (0, 0)) := alloc_is _ rfl
          have Fz6 := (Fr.refl (fun _ => False) w9).alloc (.cells #[.int .i64 0, .bool false, .int .i64 0] 30)
          generalize hwm6 : w9.alloc (.cells #[.int .i64 0, .bool false, .int .i64 0] 30) = wm6 at Bz6 Fz6
          obtain ⟨c6_0, c6_1, c6_2⟩ := cells3 Bz6
          have z6_0 := frozen_of Bz6 0
          have z6_1 := frozen_of Bz6 1
          have z6_2 := frozen_of Bz6 2
          have B6 := put3y (y0 := .int .i64 (m : Int)) (y1 := .bool x1) (y2 := .int .i64 x2) Bz6
          have Fo6 := (Fr.refl (fun i => i = w9.heap.size) wm6).put3 (b := w9.heap.size) (fun _ => rfl) (.int .i64 (m : Int)) (.bool x1) (.int .i64 x2)
          generalize hwo6 : (((wm6.setCell ⟨w9.heap.size, 0, none⟩ (.int .i64 (m : Int))).setCell ⟨w9.heap.size, 1, none⟩ (.bool x1)).setCell ⟨w9.heap.size, 2, none⟩ (.int .i64 x2)) = wo6 at B6 Fo6
          have FF6 := Fz6.trans Fo6 (fun i hi (h : i = w9.heap.size) => by omega)
          obtain ⟨d6_0, d6_1, d6_2⟩ := cells3 B6
          have HQ6 := Lib.hid (HQ9.out.calm FF6)
          have HF6 := Lib.hid (HF9.out.step FF6 nop)
          have HB6 := Lib.hid (FF6.at_ HB9.out (fun x => x))
          obtain ⟨v0, v1, v2⟩ := cells3 HB6.out
          clear FF6 B6
          by_cases he : m = r
          · subst he
            have hxx := HLL.out.2
            rw [HX.out] at hxx
            obtain ⟨h1, h2⟩ := Prod.mk.inj (Prod.mk.inj hxx).2
            subst h1
            subst h2
            clear hxx
            go_wp2
            go_roundw
            case rel => exact ⟨m + 1, by go_num, by omega, HQ6.out, HB6.out, HF6.out⟩
            case measure => simp [intOf] <;> omega
          · have he' : ((m : Int) == (r : Int)) = false := by simp; omega
            clear he
            go_wp2
            go_roundw
            case rel => exact ⟨m + 1, by go_num, by omega, HQ6.out, HB6.out, HF6.out⟩
            case measure => simp [intOf] <;> omega
        · have h4 : ¬ (m : Int) < (j : Int) := by omega
          go_wp2
          go_ret
          exact ⟨rfl, HF.out.below⟩

end Go.Proofs.Ytcpapadkdeajaaa
