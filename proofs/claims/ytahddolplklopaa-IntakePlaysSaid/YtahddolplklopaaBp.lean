/- Bp. -/
import Derived.Test.YtahddolplklopaaChecked
import Derived.WalkKit
import Derived.Laws.IdiomCopy
import Derived.Deep.QuietTactic
import Derived.BigQuiet
import Derived.Lib.Hide
import Derived.OpenShut
import Derived.StillTailTactics
import Derived.Deep.RegionWith
import Derived.Deep.RegionLaw
import Derived.Deep.Slices
import Derived.Deep.RegionHeld3
import Derived.OwnWalk
import Derived.Test.YtahddolplklopaaBase
import Derived.Test.YtahddolplklopaaCalm
import Derived.Test.YtahddolplklopaaCalmT
import Derived.Test.YtahddolplklopaaCel
import Derived.Test.YtahddolplklopaaApp
import Derived.Test.YtahddolplklopaaRE
import Derived.Test.YtahddolplklopaaREB
import Derived.Test.YtahddolplklopaaREC
import Derived.Test.YtahddolplklopaaREA
import Derived.Test.YtahddolplklopaaBq
namespace Go.Proofs.Ytahddolplklopaa
open Go.RowKit
set_option linter.unusedVariables false
set_option linter.unusedSimpArgs false

/-! ### Put -/
/-- The place of a rule's event. -/
def fi (r : Int) : List Ev → Nat
  | [] => 0
  | y :: l => if y.1 = r then 0 else fi r l + 1
theorem fi_hit {r : Int} : ∀ {l : List Ev} {k : Nat}, k < l.length → (l.getD k RE.E.z).1 = r → (∀ m, m < k → ¬ (l.getD m RE.E.z).1 = r) → fi r l = k
  | [], _, h, _, _ => by simp at h
  | y :: l, 0, _, h, _ => by unfold fi; rw [if_pos (by simpa using h)]
  | y :: l, k + 1, hk, h, hb => by
    unfold fi
    rw [if_neg (by have := hb 0 (by omega); simpa using this), fi_hit (l := l) (k := k) (by simpa using hk) (by simpa using h) (fun m hm => by have := hb (m + 1) (by omega); simpa using this)]
theorem fi_miss {r : Int} : ∀ {l : List Ev}, (∀ m, m < l.length → ¬ (l.getD m RE.E.z).1 = r) → fi r l = l.length
  | [], _ => rfl
  | y :: l, hb => by
    unfold fi
    rw [if_neg (by have := hb 0 (by simp); simpa using this), fi_miss (l := l) (fun m hm => by have := hb (m + 1) (by simpa using hm); simpa using this)]
    simp
theorem fi_le (r : Int) : ∀ l : List Ev, fi r l ≤ l.length
  | [] => Nat.le_refl _
  | y :: l => by
    unfold fi
    split
    · exact Nat.zero_le _
    · have := fi_le r l; simp; exact this
theorem fi_at {r : Int} : ∀ {l : List Ev}, fi r l < l.length → (l.getD (fi r l) RE.E.z).1 = r
  | [], h => by simp at h
  | y :: l, h => by
    unfold fi at h ⊢
    by_cases e : y.1 = r
    · rw [if_pos e]; simpa using e
    · rw [if_neg e] at h ⊢
      have := fi_at (l := l) (r := r) (by simp at h; exact h)
      simpa using this
/-- What a band answers and holds, when x is put into it. -/
def putB (c : Nat) (l : List Ev) (x : Ev) : Int × List Ev :=
  if fi x.1 l < l.length then (0, l.set (fi x.1 l) x) else if l.length < c then (0, l ++ [x]) else (6, l)
theorem Reads.ev {w : World} {b o n : Nat} {xs : List Ev} (h : Reads RE.E w (some ⟨b, o, none⟩) n xs) {k : Nat} (hk : k < n) {y0 y1 y2} (hy : xs.getD k RE.E.z = (y0, y1, y2)) :
    w.cell? ⟨b, o + k * 3, none⟩ = some (.int .i64 y0) ∧ w.cell? ⟨b, o + k * 3 + 1, none⟩ = some (.bool y1) ∧ w.cell? ⟨b, o + k * 3 + 2, none⟩ = some (.int .i64 y2) := by
  refine ⟨?_, ?_, ?_⟩
  · have := h.cellj (j := 0) hk (by decide); rw [hy] at this; exact this
  · have := h.cellj (j := 1) hk (by decide); rw [hy] at this; exact this
  · have := h.cellj (j := 2) hk (by decide); rw [hy] at this; exact this
def PtRel (w2 : World) (l : List Ev) (r : Int) (i : Value) (wr : World) : Prop :=
  ∃ k : Nat, i = .int .i64 k ∧ k ≤ l.length ∧ (∀ m, m < k → ¬ (l.getD m RE.E.z).1 = r) ∧ Fr (fun _ => False) w2 wr
section
variable {w : World} {q : Nat} {qs : Nat → Nat × Nat} {cs : Nat → Nat} {ls : Nat → List Ev}
set_option maxRecDepth 100000 in
set_option maxHeartbeats 3200000 in
theorem qput (h : Qu w q qs cs ls) {i : Nat} (hi : i < 3) (x0 : Int) (x1 : Bool) (x2 : Int) {r : Int × List Ev} (hrr : putB (cs i) (ls i) (x0, x1, x2) = r) :
    Calls Try.prog 29 #[.pointer (some ⟨q, 0, none⟩), .int .u8 ((i : Int) + 1), .agg #[.int .i64 x0, .bool x1, .int .i64 x2]] w
      fun e w' => e = .returned (.int .i64 r.1) ∧ Qu w' q qs cs (upd ls i r.2) ∧ Fr (inQ q qs) w w' := by
  have B1 := alloc_is (w := w) (n := w.heap.size) (.cells #[.int .i64 x0, .bool x1, .int .i64 x2] 56) rfl
  have F1 := (Fr.refl (fun _ => False) w).alloc (.cells #[.int .i64 x0, .bool x1, .int .i64 x2] 56)
  generalize hw1 : w.alloc (.cells #[.int .i64 x0, .bool x1, .int .i64 x2] 56) = w1 at B1 F1
  have HQ1 := Lib.hid (h.calm F1)
  have HB1 := Lib.hid B1
  have HF1 := Lib.hid F1
  have HR := Lib.hid hrr
  have hcap := (h.ring i hi).le
  have hc4 := (h.ring i hi).cap
  clear B1 F1 h hrr
  obtain ⟨l, hl⟩ : ∃ l, ls i = l := ⟨_, rfl⟩
  rw [hl] at HR hcap
  have HLS := Lib.hid hl
  have hlen : l.length ≤ 1024 := by omega
  have HCP := Lib.hid hcap
  clear hcap hc4
  go_enter Try.func29, Try.ntmps29
  go_wp2_with fail
  refine (band_yes HQ1.out hi).mono ?_
  rintro e w2 ⟨rfl, rfl⟩
  clear hw1
  go_wp2_with fail
  refine (RE.All (HQ1.out.ring i hi)).mono ?_
  rintro e w2 ⟨v, rfl, O, F2⟩
  rw [hl] at O
  obtain ⟨A', c', rfl, rd, _⟩ := O.reads
  have HRD := Lib.hid rd
  have HQ2 := Lib.hid (HQ1.out.calm F2)
  have HB2 := Lib.hid (F2.at_ HB1.out (fun x => x))
  have HF2 := Lib.hid (HF1.out.step F2 nop)
  clear O F2 rd HQ1 HB1 HF1 hl
  go_wp2_with fail
  go_loopw [20] (fun i wr => PtRel w2 l x0 i wr) (fun i _ => l.length - (intOf i).toNat)
  case atStart => exact ⟨0, rfl, Nat.zero_le _, fun m hm => absurd hm (Nat.not_lt_zero m), Fr.refl _ _⟩
  case round =>
    obtain ⟨k, rfl, hk, hno, Fr_⟩ := hrel
    have HNO := Lib.hid hno
    have HFR := Lib.hid Fr_
    clear hno Fr_
    by_cases hlt : k < l.length
    · have hlt' : (k : Int) < (l.length : Int) := by omega
      have rz := HRD.out.fr HFR.out (fun _ _ x => x)
      obtain ⟨zb, zo, rfl, hzb⟩ := rz.plain (by omega)
      obtain ⟨y, hy⟩ : ∃ y, l.getD k RE.E.z = y := ⟨_, rfl⟩
      obtain ⟨y0, y1, y2⟩ := y
      obtain ⟨l0, l1, l2⟩ := rz.ev hlt hy
      have Bz6 : (wr.alloc (.cells #[.int .i64 0, .bool false, .int .i64 0] 56)).heap[wr.heap.size]? = some (.cells #[.int .i64 0, .bool false, .int .i64 0] 56 (0, 0)) := alloc_is _ rfl
      have Fz6 := (Fr.refl (fun _ => False) wr).alloc (.cells #[.int .i64 0, .bool false, .int .i64 0] 56)
      generalize hwm6 : wr.alloc (.cells #[.int .i64 0, .bool false, .int .i64 0] 56) = wm6 at Bz6 Fz6
      obtain ⟨c6_0, c6_1, c6_2⟩ := cells3 Bz6
      have z6_0 := frozen_of Bz6 0
      have z6_1 := frozen_of Bz6 1
      have z6_2 := frozen_of Bz6 2
      have B6 := put3y (y0 := .int .i64 y0) (y1 := .bool y1) (y2 := .int .i64 y2) Bz6
      have Fo6 := (Fr.refl (fun i => i = wr.heap.size) wm6).put3 (b := wr.heap.size) (fun _ => rfl) (.int .i64 y0) (.bool y1) (.int .i64 y2)
      generalize hwo6 : (((wm6.setCell ⟨wr.heap.size, 0, none⟩ (.int .i64 y0)).setCell ⟨wr.heap.size, 1, none⟩ (.bool y1)).setCell ⟨wr.heap.size, 2, none⟩ (.int .i64 y2)) = wo6 at B6 Fo6
      have FF6 := Fz6.trans Fo6 (fun i hi (h : i = wr.heap.size) => by omega)
      obtain ⟨d6_0, d6_1, d6_2⟩ := cells3 B6
      have HHY := Lib.hid hy
      have HF6 := Lib.hid (HFR.out.step FF6 nop)
      have HQ6 := Lib.hid (HQ2.out.calm HF6.out)
      obtain ⟨b0, b1, b2⟩ := cells3 (HF6.out.at_ HB2.out (fun x => x))
      clear FF6 hy B6 rz hzb
      by_cases he : y0 = x0
      · subst he
        have HFI : Hid (fi y0 l = k) := Lib.hid (fi_hit hlt (by rw [HHY.out]) HNO.out)
        go_wp2_with fail
        refine (RE.Set_yes (HQ6.out.ring i hi) k y0 x1 x2 (by rw [HLS.out]; exact hlt)).mono ?_
        rintro e w7 ⟨rfl, R7, F7⟩
        have HQ7 := Lib.hid (HQ6.out.one hi R7 F7)
        have HF7 := Lib.hid ((((HF2.out.step HF6.out nop).mono (S' := inQ q qs) (fun _ _ x => x.elim)).trans F7 (fun j _ hj => inQ.sub hi j hj)))
        clear R7 F7
        have hr2 := HR.out
        unfold putB at hr2
        rw [if_pos (show fi (y0, x1, x2).1 l < l.length from by show fi y0 l < _; rw [HFI.out]; exact hlt)] at hr2
        rw [show fi (y0, x1, x2).1 l = k from HFI.out] at hr2
        have HR2 := Lib.hid hr2
        clear hr2
        go_wp2
        go_ret
        exact ⟨by rw [← HR2.out]; rfl, by rw [← HR2.out, ← HLS.out]; exact HQ7.out, HF7.out⟩
      · have he' : (y0 == x0) = false := by simp [he]
        clear he
        go_wp2_with fail
        go_roundw
        case rel => exact ⟨k + 1, by go_num, by omega, fun m hm => by
          by_cases e : m = k
          · subst e; rw [HHY.out]; simpa using he'
          · exact HNO.out m (by omega), HF6.out⟩
        case measure => simp [intOf]; omega
    · have h3 : ¬ (k : Int) < (l.length : Int) := by omega
      obtain rfl : k = l.length := by omega
      have HFI := Lib.hid (fi_miss HNO.out)
      obtain ⟨b0, b1, b2⟩ := cells3 (HFR.out.at_ HB2.out (fun x => x))
      have HQ3 := Lib.hid (HQ2.out.calm HFR.out)
      have hr2 := HR.out
      unfold putB at hr2
      rw [if_neg (show ¬ fi (x0, x1, x2).1 l < l.length from by show ¬ fi x0 l < _; rw [HFI.out]; omega)] at hr2
      by_cases hc : l.length < cs i
      · rw [if_pos hc] at hr2
        have HR2 := Lib.hid hr2
        have HC := Lib.hid hc
        clear hr2 hc hlt
        go_wp2_with fail
        refine (RE.Push_yes (HQ3.out.ring i hi) x0 x1 x2 (by rw [HLS.out]; exact HC.out)).mono ?_
        rintro e w7 ⟨rfl, R7, F7⟩
        have HQ7 := Lib.hid (HQ3.out.one hi R7 F7)
        have HF7 := Lib.hid ((((HF2.out.step HFR.out nop).mono (S' := inQ q qs) (fun _ _ x => x.elim)).trans F7 (fun j _ hj => inQ.sub hi j hj)))
        clear R7 F7
        go_wp2
        go_ret
        exact ⟨by rw [← HR2.out]; rfl, by rw [← HR2.out, ← HLS.out]; exact HQ7.out, HF7.out⟩
      · rw [if_neg hc] at hr2
        have HR2 := Lib.hid hr2
        have HC : Hid (l.length = cs i) := Lib.hid (by have := HCP.out; omega)
        clear hr2 hc hlt
        go_wp2_with fail
        refine (RE.Push_no (HQ3.out.ring i hi) x0 x1 x2 (by rw [HLS.out]; exact HC.out)).mono ?_
        rintro e w7 ⟨rfl, F7⟩
        have HQ7 := Lib.hid (HQ3.out.calm F7)
        have HF7 := Lib.hid (((HF2.out.step HFR.out nop).step F7 nop).mono (S' := inQ q qs) (fun _ _ x => x.elim))
        clear F7
        go_wp2
        go_ret
        exact ⟨by rw [← HR2.out]; rfl, by rw [← HR2.out, ← HLS.out, upd_id]; exact HQ7.out, HF7.out⟩
set_option maxRecDepth 100000 in
set_option maxHeartbeats 3200000 in
theorem qput_no (h : Qu w q qs cs ls) {p : Int} (hp : p < 1 ∨ 3 < p) (x0 : Int) (x1 : Bool) (x2 : Int) :
    Calls Try.prog 29 #[.pointer (some ⟨q, 0, none⟩), .int .u8 p, .agg #[.int .i64 x0, .bool x1, .int .i64 x2]] w fun e w' => e = .returned (.int .i64 1) ∧ Fr (fun _ => False) w w' := by
  have F1 := (Fr.refl (fun _ => False) w).alloc (.cells #[.int .i64 x0, .bool x1, .int .i64 x2] 56)
  generalize hw1 : w.alloc (.cells #[.int .i64 x0, .bool x1, .int .i64 x2] 56) = w1 at F1
  have HF1 := Lib.hid F1
  have HP := Lib.hid hp
  clear F1 hp h
  go_enter Try.func29, Try.ntmps29
  go_wp2_with fail
  refine (band_no w1 q p HP.out).mono ?_
  rintro e w2 ⟨rfl, rfl⟩
  go_wp2
  go_ret
  exact ⟨rfl, HF1.out⟩
/-! ### Take -/
def QtkRel (w1 : World) (ls : Nat → List Ev) (i : Value) (wr : World) : Prop :=
  ∃ k : Nat, i = .int .u8 k ∧ k ≤ 3 ∧ (∀ m, k ≤ m → m < 3 → ls m = []) ∧ Fr (fun _ => False) w1 wr
/-- What is taken: of which band, what, and what stays there. -/
def TkPost (w : World) (q : Nat) (qs : Nat → Nat × Nat) (cs : Nat → Nat) (ls : Nat → List Ev) (e : Ending) (w' : World) : Prop :=
  ((∀ m, m < 3 → ls m = []) ∧ e = .returned (.tuple #[.agg #[.int .i64 0, .bool false, .int .i64 0], .int .u8 0, .bool false]) ∧ Fr (fun _ => False) w w') ∨
  (∃ (i : Nat) (x0 : Int) (x1 : Bool) (x2 : Int) (l : List Ev), i < 3 ∧ ls i = (x0, x1, x2) :: l ∧ (∀ m, i < m → m < 3 → ls m = []) ∧
    e = .returned (.tuple #[.agg #[.int .i64 x0, .bool x1, .int .i64 x2], .int .u8 ((i : Int) + 1), .bool true]) ∧ Qu w' q qs cs (upd ls i l) ∧ Fr (inQ q qs) w w')
set_option maxRecDepth 100000 in
set_option maxHeartbeats 3200000 in
theorem qtake (h : Qu w q qs cs ls) : Calls Try.prog 31 #[.pointer (some ⟨q, 0, none⟩)] w (TkPost w q qs cs ls) := by
  have B1 := alloc_is (w := w) (n := w.heap.size) (.cells #[.int .i64 0, .bool false, .int .i64 0] 56) rfl
  have F1 := (Fr.refl (fun _ => False) w).alloc (.cells #[.int .i64 0, .bool false, .int .i64 0] 56)
  generalize hw1 : w.alloc (.cells #[.int .i64 0, .bool false, .int .i64 0] 56) = w1 at B1 F1
  have HQ1 := Lib.hid (h.calm F1)
  have HB1 := Lib.hid B1
  have HF1 := Lib.hid F1
  have HNQ : Hid (¬ inQ q qs w.heap.size) := Lib.hid (fun hh => by have := h.in_ hh; omega)
  clear B1 F1 h
  go_enter Try.func31, Try.ntmps31
  go_wp2_with fail
  clear hw1
  go_loopw [5] (fun i wr => QtkRel w1 ls i wr) (fun i _ => (intOf i).toNat)
  case atStart => exact ⟨3, rfl, Nat.le_refl _, fun m h1 h2 => absurd h1 (by omega), Fr.refl _ _⟩
  case round =>
    obtain ⟨k, rfl, hk, hno, Fr_⟩ := hrel
    have HNO := Lib.hid hno
    have HFR := Lib.hid Fr_
    clear hno Fr_
    cases k with
    | zero =>
      have HB := Lib.hid (HFR.out.at_ HB1.out (fun x => x))
      obtain ⟨c0, c1, c2⟩ := cells3 HB.out
      have z0 := frozen_of HB.out 0
      have z1 := frozen_of HB.out 1
      have z2 := frozen_of HB.out 2
      have B2 := put3 (x' := .int .i64 0) (y' := .bool false) (z' := .int .i64 0) HB.out
      have F2 := (HF1.out.step HFR.out nop).put3 (b := w.heap.size) (fun h => absurd h (Nat.lt_irrefl _)) (.int .i64 0) (.bool false) (.int .i64 0)
      have HB2 := Lib.hid B2
      have HF2 := Lib.hid F2
      clear B2 F2
      go_wp2
      exact ret_ctt rfl rfl rfl rfl HB2.out Try.underlying56 rfl (by kernel_rfl) (.inl ⟨fun m hm => HNO.out m (Nat.zero_le _) hm, rfl, HF2.out⟩)
    | succ j =>
      have hj : j < 3 := by omega
      have ej : ((j + 1 : Nat) : Int) = (j : Int) + 1 := by omega
      have e1 : (1 : Int) ≤ (j : Int) + 1 := by omega
      rw [ej]
      have HQ2 := Lib.hid (HQ1.out.calm HFR.out)
      go_wp2_with fail
      refine (band_yes HQ2.out hj).mono ?_
      rintro e w2 ⟨rfl, rfl⟩
      obtain ⟨l, hl⟩ : ∃ l, ls j = l := ⟨_, rfl⟩
      have HLS := Lib.hid hl
      cases l with
      | nil =>
        have R := HQ2.out.ring j hj
        rw [hl] at R
        have HR := Lib.hid R
        clear R hl
        go_wp2_with fail
        refine (RE.Pop_no HR.out).mono ?_
        rintro e w3 ⟨rfl, F3⟩
        have HF3 := Lib.hid (HFR.out.step F3 nop)
        clear F3
        have Bz6 : (w3.alloc (.cells #[.int .i64 0, .bool false, .int .i64 0] 56)).heap[w3.heap.size]? = some (.cells #[.int .i64 0, .bool false, .int .i64 0] 56 (0, 0)) := alloc_is _ rfl
        have Fz6 := (Fr.refl (fun _ => False) w3).alloc (.cells #[.int .i64 0, .bool false, .int .i64 0] 56)
        generalize hwm6 : w3.alloc (.cells #[.int .i64 0, .bool false, .int .i64 0] 56) = wm6 at Bz6 Fz6
        obtain ⟨c6_0, c6_1, c6_2⟩ := cells3 Bz6
        have z6_0 := frozen_of Bz6 0
        have z6_1 := frozen_of Bz6 1
        have z6_2 := frozen_of Bz6 2
        have B6 := put3y (y0 := .int .i64 0) (y1 := .bool false) (y2 := .int .i64 0) Bz6
        have Fo6 := (Fr.refl (fun i => i = w3.heap.size) wm6).put3 (b := w3.heap.size) (fun _ => rfl) (.int .i64 0) (.bool false) (.int .i64 0)
        generalize hwo6 : (((wm6.setCell ⟨w3.heap.size, 0, none⟩ (.int .i64 0)).setCell ⟨w3.heap.size, 1, none⟩ (.bool false)).setCell ⟨w3.heap.size, 2, none⟩ (.int .i64 0)) = wo6 at B6 Fo6
        have FF6 := Fz6.trans Fo6 (fun i hi (h : i = w3.heap.size) => by omega)
        obtain ⟨d6_0, d6_1, d6_2⟩ := cells3 B6
        have HF4 := Lib.hid (HF3.out.step FF6 nop)
        clear FF6 B6
        go_wp2
        go_roundw
        case rel => exact ⟨j, by go_num, by omega, fun m h1 h2 => by
          by_cases e : m = j
          · subst e; exact HLS.out
          · exact HNO.out m (by omega) h2, HF4.out⟩
        case measure => simp [intOf] <;> omega
      | cons x l =>
        obtain ⟨x0, x1, x2⟩ := x
        have R := HQ2.out.ring j hj
        rw [hl] at R
        have HR := Lib.hid R
        clear R hl
        go_wp2_with fail
        refine (RE.Pop_yes HR.out).mono ?_
        rintro e w3 ⟨rfl, R3, F3⟩
        have HQ3 := Lib.hid (HQ2.out.one hj R3 F3)
        have HF3 := Lib.hid ((((HF1.out.step HFR.out nop).mono (S' := inQ q qs) (fun _ _ x => x.elim)).trans F3 (fun k _ hk => inQ.sub hj k hk)))
        have HB3 := Lib.hid (F3.at_ (HFR.out.at_ HB1.out (fun x => x)) (fun hh => HNQ.out (inQ.sub hj _ hh)))
        clear R3 F3
        have Bz6 : (w3.alloc (.cells #[.int .i64 0, .bool false, .int .i64 0] 56)).heap[w3.heap.size]? = some (.cells #[.int .i64 0, .bool false, .int .i64 0] 56 (0, 0)) := alloc_is _ rfl
        have Fz6 := (Fr.refl (fun _ => False) w3).alloc (.cells #[.int .i64 0, .bool false, .int .i64 0] 56)
        generalize hwm6 : w3.alloc (.cells #[.int .i64 0, .bool false, .int .i64 0] 56) = wm6 at Bz6 Fz6
        obtain ⟨c6_0, c6_1, c6_2⟩ := cells3 Bz6
        have z6_0 := frozen_of Bz6 0
        have z6_1 := frozen_of Bz6 1
        have z6_2 := frozen_of Bz6 2
        have B6 := put3y (y0 := .int .i64 x0) (y1 := .bool x1) (y2 := .int .i64 x2) Bz6
        have Fo6 := (Fr.refl (fun i => i = w3.heap.size) wm6).put3 (b := w3.heap.size) (fun _ => rfl) (.int .i64 x0) (.bool x1) (.int .i64 x2)
        generalize hwo6 : (((wm6.setCell ⟨w3.heap.size, 0, none⟩ (.int .i64 x0)).setCell ⟨w3.heap.size, 1, none⟩ (.bool x1)).setCell ⟨w3.heap.size, 2, none⟩ (.int .i64 x2)) = wo6 at B6 Fo6
        have FF6 := Fz6.trans Fo6 (fun i hi (h : i = w3.heap.size) => by omega)
        obtain ⟨d6_0, d6_1, d6_2⟩ := cells3 B6
        have HB4 := Lib.hid (FF6.at_ HB3.out (fun x => x))
        obtain ⟨c0, c1, c2⟩ := cells3 HB4.out
        have z0 := frozen_of HB4.out 0
        have z1 := frozen_of HB4.out 1
        have z2 := frozen_of HB4.out 2
        have B5 := put3 (x' := .int .i64 x0) (y' := .bool x1) (z' := .int .i64 x2) HB4.out
        have F45 := (HF3.out.trans FF6 (fun _ _ x => x.elim)).put3 (b := w.heap.size) (fun h => absurd h (Nat.lt_irrefl _)) (.int .i64 x0) (.bool x1) (.int .i64 x2)
        have Q5 := (HQ3.out.calm FF6).fr ((Fr.refl (fun k => k = w.heap.size) wo6).put3 (b := w.heap.size) (fun _ => rfl) (.int .i64 x0) (.bool x1) (.int .i64 x2)) (fun k hk e => HNQ.out (e ▸ hk))
        have HB5 := Lib.hid B5
        have HF5 := Lib.hid F45
        have HQ5 := Lib.hid Q5
        clear FF6 B5 F45 Q5 B6
        go_wp2
        exact ret_ctt rfl rfl rfl rfl HB5.out Try.underlying56 rfl (by kernel_rfl) (.inr ⟨j, x0, x1, x2, l, hj, HLS.out, fun m h1 h2 => HNO.out m (by omega) h2, rfl, HQ5.out, HF5.out⟩)
end

end Go.Proofs.Ytahddolplklopaa
