/- Rik. -/
import Derived.Test.YtahddolplklopaaChecked
import Derived.WalkKit
import Derived.Laws.IdiomCopy
import Derived.Deep.QuietTactic
import Derived.BigQuiet
import Derived.Lib.Hide
import Derived.OpenShut
import Derived.StillTailTactics
import Derived.Deep.RegionWith
import Derived.Deep.RegionLaw
import Derived.Deep.Slices
import Derived.Deep.RegionHeld3
import Derived.OwnWalk
import Derived.Deep.DeepCutAuto
import Derived.Deep.CutRange
import Derived.Test.YtahddolplklopaaBase
import Derived.Test.YtahddolplklopaaCalm
import Derived.Test.YtahddolplklopaaCalmT
import Derived.Test.YtahddolplklopaaCel
import Derived.Test.YtahddolplklopaaApp
import Derived.Test.YtahddolplklopaaRE
import Derived.Test.YtahddolplklopaaREB
import Derived.Test.YtahddolplklopaaREC
import Derived.Test.YtahddolplklopaaREA
import Derived.Test.YtahddolplklopaaBq
import Derived.Test.YtahddolplklopaaBp
import Derived.Test.YtahddolplklopaaBx
import Derived.Test.YtahddolplklopaaBr
import Derived.Test.YtahddolplklopaaBk0
import Derived.Test.YtahddolplklopaaBt
import Derived.Test.YtahddolplklopaaBk
import Derived.Test.YtahddolplklopaaBu
import Derived.Test.YtahddolplklopaaBv
import Derived.Maps.AppendAt
import Derived.Test.YtahddolplklopaaMkD
import Derived.Test.YtahddolplklopaaMkE
import Derived.Test.YtahddolplklopaaClk
import Derived.Test.YtahddolplklopaaClkR
import Derived.Test.YtahddolplklopaaIk
import Derived.BigRegion
namespace Go.Proofs.Ytahddolplklopaa
open Go.RowKit
set_option linter.unusedVariables false
set_option linter.unusedSimpArgs false

/-! ### The reference's intake, as it lies -/
structure Rk (w : World) (nb tb B0 : Nat) (c : Cf) (rs : List Rl) (A : Option Addr) (k : Nat) (M : Md) : Prop where
  sb : w.heap[nb]? = some (.cells #[.slice c.s1 c.s2 c.s3, .slice c.rv c.N c.rk, .slice c.tv c.t c.tk, .int .i64 c.b0, .int .i64 c.b1, .int .i64 c.b2, .int .i64 c.dr, .int .i64 c.pa, .int .i64 c.of_, .bool c.br, .int .i64 c.lg, .int .i64 c.b0, .int .i64 c.b1, .int .i64 c.b2, .slice A M.ms.length k, .slice (some ⟨tb, 0, none⟩) c.N c.N, .int .i64 M.last, .int .i64 (M.ref)] 69 (0, 0))
  it : Reads EIt w A M.ms.length M.ms
  kl : M.ms.length ≤ k
  nA : ∀ ad, A = some ad → 0 < M.ms.length → B0 ≤ ad.block
  nB : nb < B0 ∧ tb < B0 ∧ B0 ≤ w.heap.size
  gq : GoodQ M.ms
  td : w.heap[tb]? = some (.cells (EB.flat M.told) 4 (0, 0))
  tl : M.told.length = c.N
  rd : Reads ERl w c.rv c.N rs
  pr : ∀ k, k < c.N → 1 ≤ (rs.getD k ERl.z).p ∧ (rs.getD k ERl.z).p ≤ 3
  ne : nb ≠ tb
  nr : ∀ ad, c.rv = some ad → 0 < c.N → ad.block ≠ nb ∧ ad.block ≠ tb
  cN : c.N ≤ 100
section
variable {w w' : World} {nb tb B0 : Nat} {c : Cf} {rs : List Rl} {M : Md} {A : Option Addr} {k : Nat}
theorem Rk.fr {S : Nat → Prop} (h : Rk w nb tb B0 c rs A k M) (hf : Fr S w w') (hs : ∀ i, S i → i < B0 ∧ i ≠ nb ∧ i ≠ tb ∧ (0 < c.N → ∀ ad, c.rv = some ad → ad.block ≠ i)) : Rk w' nb tb B0 c rs A k M :=
  ⟨hf.at_ h.sb (fun e => (hs _ e).2.1 rfl), h.it.move (fun ad hA hn => by
      obtain ⟨ad', hA', hlt⟩ := h.it.some_of hn
      rw [hA] at hA'; cases hA'
      exact hf.block _ hlt (fun e => by have := (hs _ e).1; have := h.nA ad hA hn; omega)), h.kl, h.nA, ⟨h.nB.1, h.nB.2.1, Nat.le_trans h.nB.2.2 hf.size⟩, h.gq, hf.at_ h.td (fun e => (hs _ e).2.2.1 rfl), h.tl,
    h.rd.move (fun ad hA hn => by
      obtain ⟨ad', hA', hlt⟩ := h.rd.some_of hn
      rw [hA] at hA'; cases hA'
      exact hf.block _ hlt (fun e => (hs _ e).2.2.2 hn ad hA rfl)), h.pr, h.ne, h.nr, h.cN⟩
theorem Rk.calm (h : Rk w nb tb B0 c rs A k M) (hf : Fr (fun _ => False) w w') : Rk w' nb tb B0 c rs A k M := h.fr hf (fun _ x => x.elim)
end
theorem Reads.frn {α : Type} {E : El α} {S : Nat → Prop} {w w' : World} {A : Option Addr} {n : Nat} {xs : List α} (h : Reads E w A n xs) (hf : Fr S w w') (hs : ∀ ad, A = some ad → 0 < n → ¬ S ad.block) : Reads E w' A n xs :=
  h.move (fun ad hA hn => by
    obtain ⟨ad', hA', hlt⟩ := h.some_of hn
    rw [hA] at hA'; cases hA'
    exact hf.block _ hlt (hs ad hA hn))
def RoPost (w : World) (nb tb B0 : Nat) (c : Cf) (rs : List Rl) (r : Bool × Md) (e : Ending) (w' : World) : Prop :=
  e = .returned (.bool r.1) ∧ (∃ A k, Rk w' nb tb B0 c rs A k r.2) ∧ Fr (fun i => i = nb ∨ i = tb) w w'
set_option maxRecDepth 100000 in
set_option maxHeartbeats 8000000 in
theorem rkoffer (w : World) (nb tb B0 : Nat) (c : Cf) (rs : List Rl) (A : Option Addr) (k : Nat) (M : Md) (h : Rk w nb tb B0 c rs A k M) (now kk : Int) (on : Bool) (hf : 0 ≤ M.ref ∧ M.ref ≤ 1000000) (hl : M.ms.length ≤ 900) :
    Calls Try.prog 22 #[.pointer (some ⟨nb, 0, none⟩), .int .i64 now, .int .i64 kk, .bool on] w (RoPost w nb tb B0 c rs (ofr c rs M now kk on)) := by
  have HH := Lib.hid h
  obtain ⟨b0, b1, b2, b3, b4, b5, b6, b7, b8, b9, b10, b11, b12, b13, b14, b15, b16, b17⟩ := cells18 h.sb
  have hN := h.cN
  clear b0 b2 b3 b4 b5 b6 b7 b8 b9 b10
  by_cases hk0 : kk < 0
  · have HE : Hid (ofr c rs M now kk on = (true, M)) := Lib.hid (by unfold ofr; rw [if_pos (.inl hk0)])
    clear h
    go_enter Try.func22, Try.ntmps22
    go_wp2
    go_ret
    rw [HE.out]; exact ⟨rfl, ⟨A, k, HH.out⟩, Fr.refl _ _⟩
  · by_cases hkN : (c.N : Int) ≤ kk
    · have HE : Hid (ofr c rs M now kk on = (true, M)) := Lib.hid (by unfold ofr; rw [if_pos (.inr (.inl hkN))])
      clear h
      go_enter Try.func22, Try.ntmps22
      go_wp2
      go_ret
      rw [HE.out]; exact ⟨rfl, ⟨A, k, HH.out⟩, Fr.refl _ _⟩
    · obtain ⟨j, rfl⟩ : ∃ j : Nat, kk = (j : Int) := ⟨kk.toNat, by omega⟩
      have hj : j < c.N := by omega
      have hj' : (j : Int) < (c.N : Int) := by omega
      obtain ⟨o, ho⟩ : ∃ o, M.told.getD j false = o := ⟨_, rfl⟩
      have tc := told_cell h.td (by rw [h.tl]; exact hj) ho
      have HO := Lib.hid ho
      clear ho
      by_cases hoo : o = on
      · have HE : Hid (ofr c rs M now (j : Int) on = (true, M)) := Lib.hid (by unfold ofr; rw [if_pos (.inr (.inr (by rw [Int.toNat_natCast, HO.out]; exact hoo)))])
        have hoo' : (o == on) = true := by simp [hoo]
        clear h hoo
        go_enter Try.func22, Try.ntmps22
        go_wp2
        go_ret
        rw [HE.out]; exact ⟨rfl, ⟨A, k, HH.out⟩, Fr.refl _ _⟩
      · have hoo' : (o == on) = false := by simp [hoo]
        have HOO := Lib.hid hoo
        obtain ⟨rb, ro, hrv, hrl⟩ := h.rd.plain (by omega)
        obtain ⟨pp, hpp⟩ : ∃ p, (rs.getD j ERl.z).p = p := ⟨_, rfl⟩
        have hp13 := h.pr j hj
        rw [hpp] at hp13
        obtain ⟨i, hi, hpi⟩ : ∃ i : Nat, i < 3 ∧ pp = (i : Int) + 1 := ⟨(pp - 1).toNat, by omega, by omega⟩
        have hui := h.gq.2 i hi
        rw [← hpi] at hui
        obtain ⟨cc, ms', h1, h2, h3, h4, h5, h6⟩ := put_match ((j : Int), on, now) (RE.room (tri c.b0 c.b1 c.b2 i)) hui
        have HC0 : Hid (cc ≠ 0 → ms' = M.ms) := Lib.hid (fun hc => putR_code h1 hc)
        have HG' : Hid (GoodQ ms') := Lib.hid ⟨fun y hy => by
          rcases h5 y hy with h7 | h7
          · exact h.gq.1 y h7
          · omega, fun m hm => by
          by_cases e : (m : Int) + 1 = pp
          · rw [e]; exact h4
          · rw [h3 _ e]; exact h.gq.2 m hm⟩
        have HE : Hid (ofr c rs M now (j : Int) on = if cc = 0 then (true, ⟨ms', M.told.set j on, M.last, M.ref⟩) else (false, ⟨M.ms, M.told, now, M.ref + 1⟩)) := Lib.hid (by
          unfold ofr
          rw [if_neg (by rintro (h | h | h); exact hk0 h; exact hkN h; rw [Int.toNat_natCast, HO.out] at h; exact hoo h), Int.toNat_natCast, hpp, show (pp - 1).toNat = i from by omega, h1])
        have hrd := h.rd
        rw [hrv] at hrd
        have HS : Hid (∀ w', Fr (fun _ => False) w w' → w'.cell? ⟨nb, 11, none⟩ = some (.int .i64 c.b0) ∧ w'.cell? ⟨nb, 12, none⟩ = some (.int .i64 c.b1) ∧ w'.cell? ⟨nb, 13, none⟩ = some (.int .i64 c.b2) ∧ w'.cell? ⟨nb, 14, none⟩ = some (.slice A M.ms.length k) ∧ w'.cell? ⟨nb, 1, none⟩ = some (.slice (some ⟨rb, ro, none⟩) c.N c.rk) ∧ w'.cell? ⟨rb, ro + j * 9 + 6, none⟩ = some (.int .u8 pp)) := Lib.hid (fun w' hf => by
          have g1 := cells18 (hf.at_ HH.out.sb (fun x => x))
          have g2 := (hrd.fr hf (fun _ _ x => x)).rl hj rfl
          exact ⟨g1.2.2.2.2.2.2.2.2.2.2.2.1, g1.2.2.2.2.2.2.2.2.2.2.2.2.1, g1.2.2.2.2.2.2.2.2.2.2.2.2.2.1, g1.2.2.2.2.2.2.2.2.2.2.2.2.2.2.1, by rw [← hrv]; exact g1.2.1, by rw [← hpp]; exact g2.2.2.2.2.2.2.1⟩)
        have HPUT : Hid (∀ w', Fr (fun _ => False) w w' → Calls Try.prog 33 #[.agg #[.int .i64 c.b0, .int .i64 c.b1, .int .i64 c.b2, .slice A M.ms.length k], .int .u8 pp, .agg #[.int .i64 (j : Int), .bool on, .int .i64 now]] w' fun e w'' => ∃ A1 k1, e = .returned (.tuple #[.agg #[.int .i64 c.b0, .int .i64 c.b1, .int .i64 c.b2, .slice A1 ms'.length k1], .int .i64 cc]) ∧ Reads EIt w'' A1 ms'.length ms' ∧ (∀ ad, A1 = some ad → 0 < ms'.length → B0 ≤ ad.block) ∧ (∀ ad, A1 = some ad → 0 < ms'.length → ad.block < w.heap.size ∨ w'.heap.size ≤ ad.block) ∧ ms'.length ≤ k1 ∧ Fr (fun _ => False) w' w'' ∧ Fr (fun _ => False) w w'') := Lib.hid (fun w' hf => by
          refine (rput w' c.b0 c.b1 c.b2 A M.ms.length k M.ms pp (j : Int) on now (HH.out.it.fr hf (fun _ _ x => x)) hl HH.out.kl hi hpi h1).mono ?_
          rintro e w'' ⟨A1, k1, he, rd, hfresh, hk1, hf2⟩
          exact ⟨A1, k1, he, rd, fun ad ha h0 => by
            rcases hfresh ad ha with h7 | h7
            · have := hf.size; have := HH.out.nB.2.2; omega
            · exact HH.out.nA ad (by rw [← h7.1]; exact ha) (by omega), fun ad ha h0 => by
            rcases hfresh ad ha with h7 | h7
            · exact .inr h7
            · obtain ⟨ad', h8, h9⟩ := HH.out.it.some_of (by omega)
              rw [← h7.1, ha] at h8; cases h8; exact .inl h9, hk1, hf2, hf.step hf2 nop⟩)
        have hF0 : Fr (fun _ => False) w w.drew := (Fr.refl _ _).drew
        have HB1 := Lib.hid b14
        have hF1 : Fr (fun _ => False) w (w.alloc (.cells #[.int .i64 0, .int .i64 0, .int .i64 0, .slice none 0 0] 67)).drew := ((Fr.refl _ w).alloc _).drew
        have HZ1 : Hid ((w.alloc (.cells #[.int .i64 0, .int .i64 0, .int .i64 0, .slice none 0 0] 67)).drew.heap[w.heap.size]? = some (.cells #[.int .i64 0, .int .i64 0, .int .i64 0, .slice none 0 0] 67 (0, 0))) := Lib.hid (alloc_is (w := w) _ rfl)
        clear h hrd h1 h2 h3 h4 h5 h6 hui hpp hrl hoo hpi hi hp13 b1 b11 b12 b13 b14
        by_cases hc : cc = 0
        · have hc' : (cc != 0) = false := by simp [hc]
          have HC := Lib.hid hc
          clear hc
          go_enter Try.func22, Try.ntmps22
          go_wp2_with fail
          go_region_held3 (fun w' => w'.cell? ⟨nb, 11, none⟩ = some (.int .i64 c.b0) ∧ w'.cell? ⟨nb, 12, none⟩ = some (.int .i64 c.b1) ∧ w'.cell? ⟨nb, 13, none⟩ = some (.int .i64 c.b2) ∧ w'.cell? ⟨nb, 14, none⟩ = some (.slice A M.ms.length k) ∧ w'.cell? ⟨nb, 1, none⟩ = some (.slice (some ⟨rb, ro, none⟩) c.N c.rk) ∧ w'.cell? ⟨rb, ro + j * 9 + 6, none⟩ = some (.int .u8 pp))
            (first | exact HS.out _ (by assumption) | exact HS.out _ (Fr.alloc (by assumption) _))
            (first | (go_at_call 33; refine (HPUT.out _ hF0).mono ?_; rintro e w5 ⟨A1, k1, rfl, R5, hfresh, hfr2, hk1, F55, F5⟩; have Bz0 : (w5.alloc (.cells #[.int .i64 0, .int .i64 0, .int .i64 0, .slice none 0 0] 67)).heap[w5.heap.size]? = some (.cells #[.int .i64 0, .int .i64 0, .int .i64 0, .slice none 0 0] 67 (0, 0)) := alloc_is _ rfl; have Fz0 := (Fr.refl (fun _ => False) w5).alloc (.cells #[.int .i64 0, .int .i64 0, .int .i64 0, .slice none 0 0] 67); generalize hwm : w5.alloc (.cells #[.int .i64 0, .int .i64 0, .int .i64 0, .slice none 0 0] 67) = wm at Bz0 Fz0; have Bz := Bz0; obtain ⟨e0, e1, e2, e3⟩ := cells4 Bz; have f0 := frozen_of Bz 0; have f1 := frozen_of Bz 1; have f2 := frozen_of Bz 2; have f3 := frozen_of Bz 3; have Bq := put4y (y0 := .int .i64 c.b0) (y1 := .int .i64 c.b1) (y2 := .int .i64 c.b2) (y3 := .slice A1 ms'.length k1) Bz; have Fq := (Fr.refl (fun i => i = w5.heap.size) wm).put4 (b := w5.heap.size) (fun _ => rfl) (.int .i64 c.b0) (.int .i64 c.b1) (.int .i64 c.b2) (.slice A1 ms'.length k1); generalize hwq : ((((wm.setCell ⟨w5.heap.size, 0, none⟩ (.int .i64 c.b0)).setCell ⟨w5.heap.size, 1, none⟩ (.int .i64 c.b1)).setCell ⟨w5.heap.size, 2, none⟩ (.int .i64 c.b2)).setCell ⟨w5.heap.size, 3, none⟩ (.slice A1 ms'.length k1)) = wq at Bq Fq; have F6 := F5.step Fz0 nop; have F7 : Fr (fun _ => False) w wq := F6.trans Fq (fun i hi (e : i = w5.heap.size) => by have := F5.size; omega); have R7 := (R5.fr Fz0 (fun _ _ x => x)).frn Fq (fun ad ha h0 (e : ad.block = w5.heap.size) => by obtain ⟨ad', h1, h2⟩ := R5.some_of h0; rw [ha] at h1; cases h1; omega)) | (go_at_call 33; refine (HPUT.out _ hF1).mono ?_; rintro e w5 ⟨A1, k1, rfl, R5, hfresh, hfr2, hk1, F55, F5⟩; have Bz0 := F55.at_ HZ1.out (fun x => x); have Bz := Bz0; obtain ⟨e0, e1, e2, e3⟩ := cells4 Bz; have f0 := frozen_of Bz 0; have f1 := frozen_of Bz 1; have f2 := frozen_of Bz 2; have f3 := frozen_of Bz 3; have Bq := put4y (y0 := .int .i64 c.b0) (y1 := .int .i64 c.b1) (y2 := .int .i64 c.b2) (y3 := .slice A1 ms'.length k1) Bz; have Fq := (Fr.refl (fun i => i = w.heap.size) w5).put4 (b := w.heap.size) (fun _ => rfl) (.int .i64 c.b0) (.int .i64 c.b1) (.int .i64 c.b2) (.slice A1 ms'.length k1); generalize hwq : ((((w5.setCell ⟨w.heap.size, 0, none⟩ (.int .i64 c.b0)).setCell ⟨w.heap.size, 1, none⟩ (.int .i64 c.b1)).setCell ⟨w.heap.size, 2, none⟩ (.int .i64 c.b2)).setCell ⟨w.heap.size, 3, none⟩ (.slice A1 ms'.length k1)) = wq at Bq Fq; have F7 : Fr (fun _ => False) w wq := F5.trans Fq (fun i hi (e : i = w.heap.size) => by omega); have R7 := R5.frn Fq (fun ad ha h0 (e : ad.block = w.heap.size) => by rcases hfr2 ad ha h0 with h | h; omega; (simp at h; omega))))
          · generalize w5.heap.size = qb at Bq ⊢
            have HR7 := Lib.hid R7
            have HF7 := Lib.hid F7
            have HFRE := Lib.hid (And.intro hfresh hk1)
            have BN := F7.at_ HH.out.sb (fun x => x)
            obtain ⟨k0_, k1_, k2_, k3_⟩ := cells4 Bq
            obtain ⟨-, -, -, -, -, -, -, -, -, -, -, g11, g12, g13, g14, -, -, -⟩ := cells18 BN
            have y11 := frozen_of BN 11
            have y12 := frozen_of BN 12
            have y13 := frozen_of BN 13
            have y14 := frozen_of BN 14
            have B8 : ((((wq.setCell ⟨nb, 11, none⟩ (.int .i64 c.b0)).setCell ⟨nb, 12, none⟩ (.int .i64 c.b1)).setCell ⟨nb, 13, none⟩ (.int .i64 c.b2)).setCell ⟨nb, 14, none⟩ (.slice A1 ms'.length k1)).heap[nb]? = some (.cells #[.slice c.s1 c.s2 c.s3, .slice c.rv c.N c.rk, .slice c.tv c.t c.tk, .int .i64 c.b0, .int .i64 c.b1, .int .i64 c.b2, .int .i64 c.dr, .int .i64 c.pa, .int .i64 c.of_, .bool c.br, .int .i64 c.lg, .int .i64 c.b0, .int .i64 c.b1, .int .i64 c.b2, .slice A1 ms'.length k1, .slice (some ⟨tb, 0, none⟩) c.N c.N, .int .i64 M.last, .int .i64 (M.ref)] 69 (0, 0)) := set_at (set_at (set_at (set_at BN 11 _) 12 _) 13 _) 14 _
            have F8 := ((((Fr.refl (fun i => i = nb) wq).setCell (p := ⟨nb, 11, none⟩) (fun _ => rfl) (.int .i64 c.b0)).setCell (p := ⟨nb, 12, none⟩) (fun _ => rfl) (.int .i64 c.b1)).setCell (p := ⟨nb, 13, none⟩) (fun _ => rfl) (.int .i64 c.b2)).setCell (p := ⟨nb, 14, none⟩) (fun _ => rfl) (.slice A1 ms'.length k1)
            generalize hw8 : (((wq.setCell ⟨nb, 11, none⟩ (.int .i64 c.b0)).setCell ⟨nb, 12, none⟩ (.int .i64 c.b1)).setCell ⟨nb, 13, none⟩ (.int .i64 c.b2)).setCell ⟨nb, 14, none⟩ (.slice A1 ms'.length k1) = w8 at B8 F8
            have T8 := F8.at_ (F7.at_ HH.out.td (fun x => x)) (fun e => HH.out.ne e.symm)
            obtain ⟨-, -, -, -, -, -, -, -, -, -, -, -, -, -, -, l15, -, -⟩ := cells18 B8
            have ztd := frozen_of T8 j
            have tc8 := told_cell T8 (by rw [HH.out.tl]; exact hj) HO.out
            have T9 := told_set T8 (by rw [HH.out.tl]; exact hj) on
            have F9 := (Fr.refl (fun i => i = tb) w8).setCell (p := ⟨tb, j, none⟩) (fun _ => rfl) (.bool on)
            generalize hw9 : w8.setCell ⟨tb, j, none⟩ (.bool on) = w9 at T9 F9
            have HP : Hid (RoPost w nb tb B0 c rs (true, ⟨ms', M.told.set j on, M.last, M.ref⟩) (.returned (.bool true)) w9) := Lib.hid (by
              have hB := HH.out.nB
              have F89 : Fr (fun i => i = nb ∨ i = tb) wq w9 := (F8.mono (S' := fun i => i = nb ∨ i = tb) (fun _ _ h => .inl h)).trans F9 (fun i _ e => .inr e)
              have FW : Fr (fun i => i = nb ∨ i = tb) w w9 := (F7.mono (S' := fun i => i = nb ∨ i = tb) (fun _ _ x => x.elim)).trans F89 (fun _ _ h => h)
              exact ⟨rfl, ⟨A1, k1, F9.at_ B8 (fun e => HH.out.ne e), HR7.out.frn F89 (fun ad ha h0 e => by have := hfresh ad ha h0; rcases e with e | e <;> omega), hk1, hfresh, ⟨hB.1, hB.2.1, Nat.le_trans hB.2.2 FW.size⟩, HG'.out, T9, by show (M.told.set j on).length = c.N; rw [List.length_set]; exact HH.out.tl,
                HH.out.rd.frn FW (fun ad ha h0 e => by have := HH.out.nr ad ha h0; rcases e with e | e; exact this.1 e; exact this.2 e), HH.out.pr, HH.out.ne, HH.out.nr, HH.out.cN⟩, FW⟩)
            clear B8 F8 T8 T9 F9 BN R7 hfresh hfr2 hk1
            go_wp2_with fail
            go_ret
            rw [HE.out, if_pos HC.out]
            exact HP.out
          · generalize w.heap.size = qb at Bq ⊢
            have HR7 := Lib.hid R7
            have HF7 := Lib.hid F7
            have HFRE := Lib.hid (And.intro hfresh hk1)
            have BN := F7.at_ HH.out.sb (fun x => x)
            obtain ⟨k0_, k1_, k2_, k3_⟩ := cells4 Bq
            obtain ⟨-, -, -, -, -, -, -, -, -, -, -, g11, g12, g13, g14, -, -, -⟩ := cells18 BN
            have y11 := frozen_of BN 11
            have y12 := frozen_of BN 12
            have y13 := frozen_of BN 13
            have y14 := frozen_of BN 14
            have B8 : ((((wq.setCell ⟨nb, 11, none⟩ (.int .i64 c.b0)).setCell ⟨nb, 12, none⟩ (.int .i64 c.b1)).setCell ⟨nb, 13, none⟩ (.int .i64 c.b2)).setCell ⟨nb, 14, none⟩ (.slice A1 ms'.length k1)).heap[nb]? = some (.cells #[.slice c.s1 c.s2 c.s3, .slice c.rv c.N c.rk, .slice c.tv c.t c.tk, .int .i64 c.b0, .int .i64 c.b1, .int .i64 c.b2, .int .i64 c.dr, .int .i64 c.pa, .int .i64 c.of_, .bool c.br, .int .i64 c.lg, .int .i64 c.b0, .int .i64 c.b1, .int .i64 c.b2, .slice A1 ms'.length k1, .slice (some ⟨tb, 0, none⟩) c.N c.N, .int .i64 M.last, .int .i64 (M.ref)] 69 (0, 0)) := set_at (set_at (set_at (set_at BN 11 _) 12 _) 13 _) 14 _
            have F8 := ((((Fr.refl (fun i => i = nb) wq).setCell (p := ⟨nb, 11, none⟩) (fun _ => rfl) (.int .i64 c.b0)).setCell (p := ⟨nb, 12, none⟩) (fun _ => rfl) (.int .i64 c.b1)).setCell (p := ⟨nb, 13, none⟩) (fun _ => rfl) (.int .i64 c.b2)).setCell (p := ⟨nb, 14, none⟩) (fun _ => rfl) (.slice A1 ms'.length k1)
            generalize hw8 : (((wq.setCell ⟨nb, 11, none⟩ (.int .i64 c.b0)).setCell ⟨nb, 12, none⟩ (.int .i64 c.b1)).setCell ⟨nb, 13, none⟩ (.int .i64 c.b2)).setCell ⟨nb, 14, none⟩ (.slice A1 ms'.length k1) = w8 at B8 F8
            have T8 := F8.at_ (F7.at_ HH.out.td (fun x => x)) (fun e => HH.out.ne e.symm)
            obtain ⟨-, -, -, -, -, -, -, -, -, -, -, -, -, -, -, l15, -, -⟩ := cells18 B8
            have ztd := frozen_of T8 j
            have tc8 := told_cell T8 (by rw [HH.out.tl]; exact hj) HO.out
            have T9 := told_set T8 (by rw [HH.out.tl]; exact hj) on
            have F9 := (Fr.refl (fun i => i = tb) w8).setCell (p := ⟨tb, j, none⟩) (fun _ => rfl) (.bool on)
            generalize hw9 : w8.setCell ⟨tb, j, none⟩ (.bool on) = w9 at T9 F9
            have HP : Hid (RoPost w nb tb B0 c rs (true, ⟨ms', M.told.set j on, M.last, M.ref⟩) (.returned (.bool true)) w9) := Lib.hid (by
              have hB := HH.out.nB
              have F89 : Fr (fun i => i = nb ∨ i = tb) wq w9 := (F8.mono (S' := fun i => i = nb ∨ i = tb) (fun _ _ h => .inl h)).trans F9 (fun i _ e => .inr e)
              have FW : Fr (fun i => i = nb ∨ i = tb) w w9 := (F7.mono (S' := fun i => i = nb ∨ i = tb) (fun _ _ x => x.elim)).trans F89 (fun _ _ h => h)
              exact ⟨rfl, ⟨A1, k1, F9.at_ B8 (fun e => HH.out.ne e), HR7.out.frn F89 (fun ad ha h0 e => by have := hfresh ad ha h0; rcases e with e | e <;> omega), hk1, hfresh, ⟨hB.1, hB.2.1, Nat.le_trans hB.2.2 FW.size⟩, HG'.out, T9, by show (M.told.set j on).length = c.N; rw [List.length_set]; exact HH.out.tl,
                HH.out.rd.frn FW (fun ad ha h0 e => by have := HH.out.nr ad ha h0; rcases e with e | e; exact this.1 e; exact this.2 e), HH.out.pr, HH.out.ne, HH.out.nr, HH.out.cN⟩, FW⟩)
            clear B8 F8 T8 T9 F9 BN R7 hfresh hfr2 hk1
            go_wp2_with fail
            go_ret
            rw [HE.out, if_pos HC.out]
            exact HP.out
        · have hc' : (cc != 0) = true := by simp [hc]
          have HC := Lib.hid hc
          clear hc
          go_enter Try.func22, Try.ntmps22
          go_wp2_with fail
          go_region_held3 (fun w' => w'.cell? ⟨nb, 11, none⟩ = some (.int .i64 c.b0) ∧ w'.cell? ⟨nb, 12, none⟩ = some (.int .i64 c.b1) ∧ w'.cell? ⟨nb, 13, none⟩ = some (.int .i64 c.b2) ∧ w'.cell? ⟨nb, 14, none⟩ = some (.slice A M.ms.length k) ∧ w'.cell? ⟨nb, 1, none⟩ = some (.slice (some ⟨rb, ro, none⟩) c.N c.rk) ∧ w'.cell? ⟨rb, ro + j * 9 + 6, none⟩ = some (.int .u8 pp))
            (first | exact HS.out _ (by assumption) | exact HS.out _ (Fr.alloc (by assumption) _))
            (first | (go_at_call 33; refine (HPUT.out _ hF0).mono ?_; rintro e w5 ⟨A1, k1, rfl, R5, hfresh, hfr2, hk1, F55, F5⟩; have Bz0 : (w5.alloc (.cells #[.int .i64 0, .int .i64 0, .int .i64 0, .slice none 0 0] 67)).heap[w5.heap.size]? = some (.cells #[.int .i64 0, .int .i64 0, .int .i64 0, .slice none 0 0] 67 (0, 0)) := alloc_is _ rfl; have Fz0 := (Fr.refl (fun _ => False) w5).alloc (.cells #[.int .i64 0, .int .i64 0, .int .i64 0, .slice none 0 0] 67); generalize hwm : w5.alloc (.cells #[.int .i64 0, .int .i64 0, .int .i64 0, .slice none 0 0] 67) = wm at Bz0 Fz0; have Bz := Bz0; obtain ⟨e0, e1, e2, e3⟩ := cells4 Bz; have f0 := frozen_of Bz 0; have f1 := frozen_of Bz 1; have f2 := frozen_of Bz 2; have f3 := frozen_of Bz 3; have Bq := put4y (y0 := .int .i64 c.b0) (y1 := .int .i64 c.b1) (y2 := .int .i64 c.b2) (y3 := .slice A1 ms'.length k1) Bz; have Fq := (Fr.refl (fun i => i = w5.heap.size) wm).put4 (b := w5.heap.size) (fun _ => rfl) (.int .i64 c.b0) (.int .i64 c.b1) (.int .i64 c.b2) (.slice A1 ms'.length k1); generalize hwq : ((((wm.setCell ⟨w5.heap.size, 0, none⟩ (.int .i64 c.b0)).setCell ⟨w5.heap.size, 1, none⟩ (.int .i64 c.b1)).setCell ⟨w5.heap.size, 2, none⟩ (.int .i64 c.b2)).setCell ⟨w5.heap.size, 3, none⟩ (.slice A1 ms'.length k1)) = wq at Bq Fq; have F6 := F5.step Fz0 nop; have F7 : Fr (fun _ => False) w wq := F6.trans Fq (fun i hi (e : i = w5.heap.size) => by have := F5.size; omega); have R7 := (R5.fr Fz0 (fun _ _ x => x)).frn Fq (fun ad ha h0 (e : ad.block = w5.heap.size) => by obtain ⟨ad', h1, h2⟩ := R5.some_of h0; rw [ha] at h1; cases h1; omega)) | (go_at_call 33; refine (HPUT.out _ hF1).mono ?_; rintro e w5 ⟨A1, k1, rfl, R5, hfresh, hfr2, hk1, F55, F5⟩; have Bz0 := F55.at_ HZ1.out (fun x => x); have Bz := Bz0; obtain ⟨e0, e1, e2, e3⟩ := cells4 Bz; have f0 := frozen_of Bz 0; have f1 := frozen_of Bz 1; have f2 := frozen_of Bz 2; have f3 := frozen_of Bz 3; have Bq := put4y (y0 := .int .i64 c.b0) (y1 := .int .i64 c.b1) (y2 := .int .i64 c.b2) (y3 := .slice A1 ms'.length k1) Bz; have Fq := (Fr.refl (fun i => i = w.heap.size) w5).put4 (b := w.heap.size) (fun _ => rfl) (.int .i64 c.b0) (.int .i64 c.b1) (.int .i64 c.b2) (.slice A1 ms'.length k1); generalize hwq : ((((w5.setCell ⟨w.heap.size, 0, none⟩ (.int .i64 c.b0)).setCell ⟨w.heap.size, 1, none⟩ (.int .i64 c.b1)).setCell ⟨w.heap.size, 2, none⟩ (.int .i64 c.b2)).setCell ⟨w.heap.size, 3, none⟩ (.slice A1 ms'.length k1)) = wq at Bq Fq; have F7 : Fr (fun _ => False) w wq := F5.trans Fq (fun i hi (e : i = w.heap.size) => by omega); have R7 := R5.frn Fq (fun ad ha h0 (e : ad.block = w.heap.size) => by rcases hfr2 ad ha h0 with h | h; omega; (simp at h; omega))))
          · generalize w5.heap.size = qb at Bq ⊢
            have HR7 := Lib.hid R7
            have BN := F7.at_ HH.out.sb (fun x => x)
            have TN := F7.at_ HH.out.td (fun x => x)
            obtain ⟨-, -, -, -, -, -, -, -, -, -, -, -, -, -, -, -, g16, g17⟩ := cells18 BN
            have y16 := frozen_of BN 16
            have y17 := frozen_of BN 17
            have B8 : ((wq.setCell ⟨nb, 17, none⟩ (.int .i64 (M.ref + 1))).setCell ⟨nb, 16, none⟩ (.int .i64 now)).heap[nb]? = some (.cells #[.slice c.s1 c.s2 c.s3, .slice c.rv c.N c.rk, .slice c.tv c.t c.tk, .int .i64 c.b0, .int .i64 c.b1, .int .i64 c.b2, .int .i64 c.dr, .int .i64 c.pa, .int .i64 c.of_, .bool c.br, .int .i64 c.lg, .int .i64 c.b0, .int .i64 c.b1, .int .i64 c.b2, .slice A M.ms.length k, .slice (some ⟨tb, 0, none⟩) c.N c.N, .int .i64 now, .int .i64 (M.ref + 1)] 69 (0, 0)) := set_at (set_at BN 17 _) 16 _
            have F8 := ((Fr.refl (fun i => i = nb) wq).setCell (p := ⟨nb, 17, none⟩) (fun _ => rfl) (.int .i64 (M.ref + 1))).setCell (p := ⟨nb, 16, none⟩) (fun _ => rfl) (.int .i64 now)
            generalize hw8 : (wq.setCell ⟨nb, 17, none⟩ (.int .i64 (M.ref + 1))).setCell ⟨nb, 16, none⟩ (.int .i64 now) = w8 at B8 F8
            have HP : Hid (RoPost w nb tb B0 c rs (false, ⟨M.ms, M.told, now, M.ref + 1⟩) (.returned (.bool false)) w8) := Lib.hid (by
              have hB := HH.out.nB
              have FW : Fr (fun i => i = nb ∨ i = tb) w w8 := (F7.mono (S' := fun i => i = nb ∨ i = tb) (fun _ _ x => x.elim)).trans F8 (fun _ _ h => .inl h)
              have hw : Fr (fun i => i = nb) w w8 := (F7.mono (S' := fun i => i = nb) (fun _ _ x => x.elim)).trans F8 (fun _ _ h => h)
              exact ⟨rfl, ⟨A, k, B8, HH.out.it.frn hw (fun ad ha h0 e => by have := HH.out.nA ad ha h0; omega), HH.out.kl, HH.out.nA, ⟨hB.1, hB.2.1, Nat.le_trans hB.2.2 FW.size⟩, HH.out.gq, F8.at_ TN (fun e => HH.out.ne e.symm), HH.out.tl,
                HH.out.rd.frn hw (fun ad ha h0 e => (HH.out.nr ad ha h0).1 e), HH.out.pr, HH.out.ne, HH.out.nr, HH.out.cN⟩, FW⟩)
            clear B8 F8 BN TN R7 hfresh hfr2 hk1 HC0
            go_wp2_with fail
            go_ret
            rw [HE.out, if_neg HC.out]
            exact HP.out
          · generalize w.heap.size = qb at Bq ⊢
            have HR7 := Lib.hid R7
            have BN := F7.at_ HH.out.sb (fun x => x)
            have TN := F7.at_ HH.out.td (fun x => x)
            obtain ⟨-, -, -, -, -, -, -, -, -, -, -, -, -, -, -, -, g16, g17⟩ := cells18 BN
            have y16 := frozen_of BN 16
            have y17 := frozen_of BN 17
            have B8 : ((wq.setCell ⟨nb, 17, none⟩ (.int .i64 (M.ref + 1))).setCell ⟨nb, 16, none⟩ (.int .i64 now)).heap[nb]? = some (.cells #[.slice c.s1 c.s2 c.s3, .slice c.rv c.N c.rk, .slice c.tv c.t c.tk, .int .i64 c.b0, .int .i64 c.b1, .int .i64 c.b2, .int .i64 c.dr, .int .i64 c.pa, .int .i64 c.of_, .bool c.br, .int .i64 c.lg, .int .i64 c.b0, .int .i64 c.b1, .int .i64 c.b2, .slice A M.ms.length k, .slice (some ⟨tb, 0, none⟩) c.N c.N, .int .i64 now, .int .i64 (M.ref + 1)] 69 (0, 0)) := set_at (set_at BN 17 _) 16 _
            have F8 := ((Fr.refl (fun i => i = nb) wq).setCell (p := ⟨nb, 17, none⟩) (fun _ => rfl) (.int .i64 (M.ref + 1))).setCell (p := ⟨nb, 16, none⟩) (fun _ => rfl) (.int .i64 now)
            generalize hw8 : (wq.setCell ⟨nb, 17, none⟩ (.int .i64 (M.ref + 1))).setCell ⟨nb, 16, none⟩ (.int .i64 now) = w8 at B8 F8
            have HP : Hid (RoPost w nb tb B0 c rs (false, ⟨M.ms, M.told, now, M.ref + 1⟩) (.returned (.bool false)) w8) := Lib.hid (by
              have hB := HH.out.nB
              have FW : Fr (fun i => i = nb ∨ i = tb) w w8 := (F7.mono (S' := fun i => i = nb ∨ i = tb) (fun _ _ x => x.elim)).trans F8 (fun _ _ h => .inl h)
              have hw : Fr (fun i => i = nb) w w8 := (F7.mono (S' := fun i => i = nb) (fun _ _ x => x.elim)).trans F8 (fun _ _ h => h)
              exact ⟨rfl, ⟨A, k, B8, HH.out.it.frn hw (fun ad ha h0 e => by have := HH.out.nA ad ha h0; omega), HH.out.kl, HH.out.nA, ⟨hB.1, hB.2.1, Nat.le_trans hB.2.2 FW.size⟩, HH.out.gq, F8.at_ TN (fun e => HH.out.ne e.symm), HH.out.tl,
                HH.out.rd.frn hw (fun ad ha h0 e => (HH.out.nr ad ha h0).1 e), HH.out.pr, HH.out.ne, HH.out.nr, HH.out.cN⟩, FW⟩)
            clear B8 F8 BN TN R7 hfresh hfr2 hk1 HC0
            go_wp2_with fail
            go_ret
            rw [HE.out, if_neg HC.out]
            exact HP.out

/-! ### New -/
def RkNPost (w : World) (c : Cf) (rs : List Rl) (e : Ending) (w' : World) : Prop :=
  ∃ nb tb, e = .returned (.pointer (some ⟨nb, 0, none⟩)) ∧ Rk w' nb tb w'.heap.size c rs none 0 ⟨[], List.replicate c.N false, 0, 0⟩ ∧ Fr (fun _ => False) w w' ∧ w.heap.size ≤ nb ∧ w.heap.size ≤ tb
theorem Rk.raise {w : World} {nb tb B0 B1 : Nat} {c : Cf} {rs : List Rl} {A : Option Addr} {k : Nat} {M : Md} (h : Rk w nb tb B0 c rs A k M) (hm : M.ms = []) (h1 : B0 ≤ B1) (h2 : B1 ≤ w.heap.size) : Rk w nb tb B1 c rs A k M :=
  ⟨h.sb, h.it, h.kl, fun ad ha h0 => by rw [hm] at h0; exact absurd h0 (Nat.lt_irrefl _), ⟨Nat.lt_of_lt_of_le h.nB.1 h1, Nat.lt_of_lt_of_le h.nB.2.1 h1, h2⟩, h.gq, h.td, h.tl, h.rd, h.pr, h.ne, h.nr, h.cN⟩
set_option maxRecDepth 100000 in
set_option maxHeartbeats 8000000 in
theorem rknew (w : World) (c : Cf) (rs : List Rl) (hr : Reads ERl w c.rv c.N rs) (hp : ∀ k, k < c.N → 1 ≤ (rs.getD k ERl.z).p ∧ (rs.getD k ERl.z).p ≤ 3) (hN : c.N ≤ 100) :
    Calls Try.prog 19 #[.agg #[.slice c.s1 c.s2 c.s3, .slice c.rv c.N c.rk, .slice c.tv c.t c.tk, .int .i64 c.b0, .int .i64 c.b1, .int .i64 c.b2, .int .i64 c.dr, .int .i64 c.pa, .int .i64 c.of_, .bool c.br, .int .i64 c.lg]] w (RkNPost w c rs) := by
  obtain ⟨i0, hi, hz0, hz1, hz2⟩ := info_parts (show (Try.prog.info? 4).map (fun i => (i.zero, i.size, i.bytes)) = some (some (.bool false), 1, 1) by kernel_rfl)
  have hmk : ∀ W, (Instr.makeSlice 52 (.int .i64 (c.N : Int)) (.int .i64 (c.N : Int))).run Try.prog W = .ok (.slice (some ⟨W.heap.size, 0, none⟩) c.N c.N) (W.alloc (.cells (EB.flat (List.replicate c.N false)) 4)) := by
    intro W
    have := run_make (P := Try.prog) W 52 4 i0 _ Try.underlying52 hi hz0 .i64 .i64 (c.N : Int) (c.N : Int) (by omega) (by omega) (by rw [hz2]; omega) (by omega)
    rw [this, hz1]
    simp only [Int.toNat_natCast]
    rw [show List.replicate c.N false = List.replicate c.N EB.z from rfl, ← made_flat EB c.N]; rfl
  have B1 := alloc_is (w := w) (n := w.heap.size) (.cells #[.slice c.s1 c.s2 c.s3, .slice c.rv c.N c.rk, .slice c.tv c.t c.tk, .int .i64 c.b0, .int .i64 c.b1, .int .i64 c.b2, .int .i64 c.dr, .int .i64 c.pa, .int .i64 c.of_, .bool c.br, .int .i64 c.lg] 34) rfl
  have F1 := (Fr.refl (fun _ => False) w).alloc (.cells #[.slice c.s1 c.s2 c.s3, .slice c.rv c.N c.rk, .slice c.tv c.t c.tk, .int .i64 c.b0, .int .i64 c.b1, .int .i64 c.b2, .int .i64 c.dr, .int .i64 c.pa, .int .i64 c.of_, .bool c.br, .int .i64 c.lg] 34)
  generalize hw1 : w.alloc (.cells #[.slice c.s1 c.s2 c.s3, .slice c.rv c.N c.rk, .slice c.tv c.t c.tk, .int .i64 c.b0, .int .i64 c.b1, .int .i64 c.b2, .int .i64 c.dr, .int .i64 c.pa, .int .i64 c.of_, .bool c.br, .int .i64 c.lg] 34) = w1 at B1 F1
  have HB1 := Lib.hid B1
  have HF1 := Lib.hid F1
  clear hi hz0 hz1 hz2
  clear B1 F1
  have HS : Hid (∀ w', Fr (fun _ => False) w1 w' → w'.cell? ⟨w.heap.size, 0, none⟩ = some (.slice c.s1 c.s2 c.s3) ∧ w'.cell? ⟨w.heap.size, 1, none⟩ = some (.slice c.rv c.N c.rk) ∧ w'.cell? ⟨w.heap.size, 2, none⟩ = some (.slice c.tv c.t c.tk) ∧ w'.cell? ⟨w.heap.size, 3, none⟩ = some (.int .i64 c.b0) ∧ w'.cell? ⟨w.heap.size, 4, none⟩ = some (.int .i64 c.b1) ∧ w'.cell? ⟨w.heap.size, 5, none⟩ = some (.int .i64 c.b2) ∧ w'.cell? ⟨w.heap.size, 6, none⟩ = some (.int .i64 c.dr) ∧ w'.cell? ⟨w.heap.size, 7, none⟩ = some (.int .i64 c.pa) ∧ w'.cell? ⟨w.heap.size, 8, none⟩ = some (.int .i64 c.of_) ∧ w'.cell? ⟨w.heap.size, 9, none⟩ = some (.bool c.br) ∧ w'.cell? ⟨w.heap.size, 10, none⟩ = some (.int .i64 c.lg)) := Lib.hid (fun w' h => cells11 (h.at_ HB1.out (fun x => x)))
  have hF0 : Fr (fun _ => False) w1 w1.drew := (Fr.refl _ _).drew
  go_enter Try.func19, Try.ntmps19
  go_wp2_with fail
  go_region_held3 (fun w' => w'.cell? ⟨w.heap.size, 0, none⟩ = some (.slice c.s1 c.s2 c.s3) ∧ w'.cell? ⟨w.heap.size, 1, none⟩ = some (.slice c.rv c.N c.rk) ∧ w'.cell? ⟨w.heap.size, 2, none⟩ = some (.slice c.tv c.t c.tk) ∧ w'.cell? ⟨w.heap.size, 3, none⟩ = some (.int .i64 c.b0) ∧ w'.cell? ⟨w.heap.size, 4, none⟩ = some (.int .i64 c.b1) ∧ w'.cell? ⟨w.heap.size, 5, none⟩ = some (.int .i64 c.b2) ∧ w'.cell? ⟨w.heap.size, 6, none⟩ = some (.int .i64 c.dr) ∧ w'.cell? ⟨w.heap.size, 7, none⟩ = some (.int .i64 c.pa) ∧ w'.cell? ⟨w.heap.size, 8, none⟩ = some (.int .i64 c.of_) ∧ w'.cell? ⟨w.heap.size, 9, none⟩ = some (.bool c.br) ∧ w'.cell? ⟨w.heap.size, 10, none⟩ = some (.int .i64 c.lg))
    (first | exact HS.out _ (by assumption) | exact HS.out _ (Fr.alloc (by assumption) _) | exact HS.out _ (Fr.alloc (Fr.alloc (by assumption) _) _)) (fail)
  all_goals
    have BT := alloc_at (alloc_is (w := w1) (n := w1.heap.size) (.cells (EB.flat (List.replicate c.N false)) 4) rfl) (.cells #[.slice c.s1 c.s2 c.s3, .slice c.rv c.N c.rk, .slice c.tv c.t c.tk, .int .i64 c.b0, .int .i64 c.b1, .int .i64 c.b2, .int .i64 c.dr, .int .i64 c.pa, .int .i64 c.of_, .bool c.br, .int .i64 c.lg, .int .i64 c.b0, .int .i64 c.b1, .int .i64 c.b2, .slice none 0 0, .slice (some ⟨w1.heap.size, 0, none⟩) c.N c.N, .int .i64 0, .int .i64 0] 69)
    have BX := alloc_is (w := w1.alloc (.cells (EB.flat (List.replicate c.N false)) 4)) (n := w1.heap.size + 1) (.cells #[.slice c.s1 c.s2 c.s3, .slice c.rv c.N c.rk, .slice c.tv c.t c.tk, .int .i64 c.b0, .int .i64 c.b1, .int .i64 c.b2, .int .i64 c.dr, .int .i64 c.pa, .int .i64 c.of_, .bool c.br, .int .i64 c.lg, .int .i64 c.b0, .int .i64 c.b1, .int .i64 c.b2, .slice none 0 0, .slice (some ⟨w1.heap.size, 0, none⟩) c.N c.N, .int .i64 0, .int .i64 0] 69) (by simp)
    have FX := ((((Fr.refl (fun _ => False) w1).alloc (.cells (EB.flat (List.replicate c.N false)) 4)).alloc (.cells #[.slice c.s1 c.s2 c.s3, .slice c.rv c.N c.rk, .slice c.tv c.t c.tk, .int .i64 c.b0, .int .i64 c.b1, .int .i64 c.b2, .int .i64 c.dr, .int .i64 c.pa, .int .i64 c.of_, .bool c.br, .int .i64 c.lg, .int .i64 c.b0, .int .i64 c.b1, .int .i64 c.b2, .slice none 0 0, .slice (some ⟨w1.heap.size, 0, none⟩) c.N c.N, .int .i64 0, .int .i64 0] 69))).drew
    have hsz : (((w1.alloc (.cells (EB.flat (List.replicate c.N false)) 4)).alloc (.cells #[.slice c.s1 c.s2 c.s3, .slice c.rv c.N c.rk, .slice c.tv c.t c.tk, .int .i64 c.b0, .int .i64 c.b1, .int .i64 c.b2, .int .i64 c.dr, .int .i64 c.pa, .int .i64 c.of_, .bool c.br, .int .i64 c.lg, .int .i64 c.b0, .int .i64 c.b1, .int .i64 c.b2, .slice none 0 0, .slice (some ⟨w1.heap.size, 0, none⟩) c.N c.N, .int .i64 0, .int .i64 0] 69)).drew).heap.size = w1.heap.size + 2 := by show ((w1.alloc _).alloc _).heap.size = _; simp
    have BT' : (((w1.alloc (.cells (EB.flat (List.replicate c.N false)) 4)).alloc (.cells #[.slice c.s1 c.s2 c.s3, .slice c.rv c.N c.rk, .slice c.tv c.t c.tk, .int .i64 c.b0, .int .i64 c.b1, .int .i64 c.b2, .int .i64 c.dr, .int .i64 c.pa, .int .i64 c.of_, .bool c.br, .int .i64 c.lg, .int .i64 c.b0, .int .i64 c.b1, .int .i64 c.b2, .slice none 0 0, .slice (some ⟨w1.heap.size, 0, none⟩) c.N c.N, .int .i64 0, .int .i64 0] 69)).drew).heap[w1.heap.size]? = _ := BT
    have BX' : (((w1.alloc (.cells (EB.flat (List.replicate c.N false)) 4)).alloc (.cells #[.slice c.s1 c.s2 c.s3, .slice c.rv c.N c.rk, .slice c.tv c.t c.tk, .int .i64 c.b0, .int .i64 c.b1, .int .i64 c.b2, .int .i64 c.dr, .int .i64 c.pa, .int .i64 c.of_, .bool c.br, .int .i64 c.lg, .int .i64 c.b0, .int .i64 c.b1, .int .i64 c.b2, .slice none 0 0, .slice (some ⟨w1.heap.size, 0, none⟩) c.N c.N, .int .i64 0, .int .i64 0] 69)).drew).heap[w1.heap.size + 1]? = _ := BX
    generalize hwX : ((w1.alloc (.cells (EB.flat (List.replicate c.N false)) 4)).alloc (.cells #[.slice c.s1 c.s2 c.s3, .slice c.rv c.N c.rk, .slice c.tv c.t c.tk, .int .i64 c.b0, .int .i64 c.b1, .int .i64 c.b2, .int .i64 c.dr, .int .i64 c.pa, .int .i64 c.of_, .bool c.br, .int .i64 c.lg, .int .i64 c.b0, .int .i64 c.b1, .int .i64 c.b2, .slice none 0 0, .slice (some ⟨w1.heap.size, 0, none⟩) c.N c.N, .int .i64 0, .int .i64 0] 69)).drew = wX at BT' BX' FX hsz
    clear BT BX
    have HP : Hid (RkNPost w c rs (.returned (.pointer (some ⟨w1.heap.size + 1, 0, none⟩))) wX) := Lib.hid (by
      have hs1 := HF1.out.size
      exact ⟨w1.heap.size + 1, w1.heap.size, rfl, ⟨BX', ⟨rfl, .inl rfl⟩, Nat.le_refl _, (fun ad ha => by cases ha), ⟨by omega, by omega, Nat.le_refl _⟩, GoodQ.nil, BT', List.length_replicate .., hr.fr (HF1.out.step FX nop) (fun _ _ x => x), hp, by omega, fun ad ha h0 => by
        have := rd_lt hr ha h0
        exact ⟨by omega, by omega⟩, hN⟩, HF1.out.step FX nop, by omega, by omega⟩)
    clear BT' BX' FX hsz
    go_wp2_with fail
    go_ret
    exact HP.out
/-! ### Over -/
set_option maxRecDepth 100000 in
set_option maxHeartbeats 8000000 in
theorem rkover (w : World) (nb tb B0 : Nat) (c : Cf) (rs : List Rl) (A : Option Addr) (k : Nat) (M : Md) (h : Rk w nb tb B0 c rs A k M) (now : Int) (hn : BigI now) (hl : BigI M.last) :
    Calls Try.prog 23 #[.pointer (some ⟨nb, 0, none⟩), .int .i64 now] w fun e w' => e = .returned (.bool (ovr c M now)) ∧ Fr (fun _ => False) w w' := by
  have HB := Lib.hid h.sb
  have n2 : ∀ x : Calm w, x.to.cell? ⟨nb, 2, none⟩ = some (.slice c.tv c.t c.tk) := fun x => (cells18 (x.fr.at_ HB.out (fun x => x))).2.2.1
  have n16 : ∀ x : Calm w, x.to.cell? ⟨nb, 16, none⟩ = some (.int .i64 M.last) := fun x => (cells18 (x.fr.at_ HB.out (fun x => x))).2.2.2.2.2.2.2.2.2.2.2.2.2.2.2.2.1
  have n17 : ∀ x : Calm w, x.to.cell? ⟨nb, 17, none⟩ = some (.int .i64 (M.ref)) := fun x => (cells18 (x.fr.at_ HB.out (fun x => x))).2.2.2.2.2.2.2.2.2.2.2.2.2.2.2.2.2
  have HSN := Lib.hid (fun x : Calm w => (rsince_any x.to now M.last hn hl).mono fun e w' (h : e = .returned (.int .i64 (sn now M.last)) ∧ x.to = w') => (⟨h.1, by rw [← h.2]; exact Fr.refl _ _⟩ : e = .returned (.int .i64 (sn now M.last)) ∧ Fr (fun _ => False) x.to w'))
  clear h
  by_cases h0 : 0 < M.ref
  · have h0' : decide (0 < M.ref) = true := decide_eq_true h0
    have HE : Hid (ovr c M now = decide (sn now M.last < (c.t : Int))) := Lib.hid (by unfold ovr; simp [h0])
    clear hn hl
    go_enter Try.func23, Try.ntmps23
    go_wp2_with fail
    (refine wp_region_calm (by kernel_rfl) (by kernel_rfl) ?_; (repeat (go_big_quiet_step ((go_at_call 34; exact Calm.of (HSN.out _))))); refine wpQuiet_nil ?_; intro _ hwq0; obtain ⟨nq, hwq1⟩ := hwq0; subst hwq1)
    have F9 := nq.fr
    go_wp2
    go_ret
    rw [HE.out]
    exact ⟨rfl, F9⟩
  · have h0' : decide (0 < M.ref) = false := decide_eq_false h0
    have HE : Hid (ovr c M now = false) := Lib.hid (by unfold ovr; simp [h0])
    clear hn hl
    go_enter Try.func23, Try.ntmps23
    go_wp2_with fail
    (refine wp_region_calm (by kernel_rfl) (by kernel_rfl) ?_; (repeat (go_big_quiet_step (fail))); refine wpQuiet_nil ?_; intro _ hwq0; obtain ⟨nq, hwq1⟩ := hwq0; subst hwq1)
    have F9 := nq.fr
    go_wp2
    go_ret
    rw [HE.out]
    exact ⟨rfl, F9⟩
/-! ### Waiting -/
set_option maxRecDepth 100000 in
set_option maxHeartbeats 8000000 in
theorem rkwaiting (w : World) (nb tb B0 : Nat) (c : Cf) (rs : List Rl) (A : Option Addr) (k : Nat) (M : Md) (h : Rk w nb tb B0 c rs A k M) (hl : M.ms.length ≤ 1000) :
    Calls Try.prog 24 #[.pointer (some ⟨nb, 0, none⟩)] w fun e w' => e = .returned (.agg #[.int .i64 ((bnd 1 M.ms).length : Nat), .int .i64 ((bnd 2 M.ms).length : Nat), .int .i64 ((bnd 3 M.ms).length : Nat)]) ∧ Fr (fun _ => False) w w' := by
  have BT := alloc_is (w := w) (n := w.heap.size) (.cells #[.int .i64 0, .int .i64 0, .int .i64 0] 32) rfl
  have F1 := (Fr.refl (fun _ => False) w).alloc (.cells #[.int .i64 0, .int .i64 0, .int .i64 0] 32)
  generalize hw1 : w.alloc (.cells #[.int .i64 0, .int .i64 0, .int .i64 0] 32) = w1 at BT F1
  have HBT := Lib.hid BT
  have HF1 := Lib.hid F1
  have HH := Lib.hid h
  clear BT F1 h
  go_enter Try.func24, Try.ntmps24
  go_upto_region 1 with (fail)
  clear hw1
  obtain ⟨ab, hab⟩ : ∃ ab, w.heap.size = ab := ⟨_, rfl⟩
  rw [hab] at HBT ⊢
  have HAB : Hid (∀ i, i = ab → w.heap.size ≤ i) := Lib.hid (fun i e => by omega)
  have HL : Hid (∀ p : Int, ((bnd p M.ms).length : Nat) ≤ 1000) := Lib.hid (fun p => Nat.le_trans (bnd_len p M.ms) hl)
  obtain ⟨ln, hln⟩ : ∃ ln : Int → Nat, ∀ p, (bnd p M.ms).length = ln p := ⟨_, fun _ => rfl⟩
  have HLN := Lib.hid hln
  clear hln
  have HBP : Hid (∀ p : Int, ∀ w', Fr (fun _ => False) w1 w' → Calls Try.prog 35 #[.agg #[.int .i64 c.b0, .int .i64 c.b1, .int .i64 c.b2, .slice A M.ms.length k], .int .u8 p] w' fun e w'' => ∃ A1 k1, e = .returned (.slice A1 (ln p) k1) ∧ Fr (fun _ => False) w1 w'') := Lib.hid (fun p w' hf => (rbnd w' c.b0 c.b1 c.b2 A M.ms.length k M.ms p (HH.out.it.fr (HF1.out.step hf nop) (fun _ _ x => x)) hl).mono fun e w'' ⟨A1, k1, he, _, hf2⟩ => ⟨A1, k1, by rw [← HLN.out]; exact he, hf.step hf2 nop⟩)
  have hl1 : ln 1 ≤ 1000 := by rw [← HLN.out]; exact HL.out 1
  have hl2 : ln 2 ≤ 1000 := by rw [← HLN.out]; exact HL.out 2
  have hl3 : ln 3 ≤ 1000 := by rw [← HLN.out]; exact HL.out 3
  have HS : Hid (∀ w', Fr (fun _ => False) w w' → w'.cell? ⟨nb, 11, none⟩ = some (.int .i64 c.b0) ∧ w'.cell? ⟨nb, 12, none⟩ = some (.int .i64 c.b1) ∧ w'.cell? ⟨nb, 13, none⟩ = some (.int .i64 c.b2) ∧ w'.cell? ⟨nb, 14, none⟩ = some (.slice A M.ms.length k)) := Lib.hid (fun w' hf => by
    have g1 := cells18 (hf.at_ HH.out.sb (fun x => x))
    exact ⟨g1.2.2.2.2.2.2.2.2.2.2.2.1, g1.2.2.2.2.2.2.2.2.2.2.2.2.1, g1.2.2.2.2.2.2.2.2.2.2.2.2.2.1, g1.2.2.2.2.2.2.2.2.2.2.2.2.2.2.1⟩)
  have hF0 : Fr (fun _ => False) w1 w1.drew := (Fr.refl _ _).drew
  have hF0w : Fr (fun _ => False) w w1.drew := HF1.out.step hF0 nop
  clear hab
  go_region_held3 (fun w' => w'.cell? ⟨nb, 11, none⟩ = some (.int .i64 c.b0) ∧ w'.cell? ⟨nb, 12, none⟩ = some (.int .i64 c.b1) ∧ w'.cell? ⟨nb, 13, none⟩ = some (.int .i64 c.b2) ∧ w'.cell? ⟨nb, 14, none⟩ = some (.slice A M.ms.length k))
    (exact HS.out _ (by assumption))
    ((go_at_call 35; refine (HBP.out _ _ (by assumption)).mono ?_; rintro e wa ⟨A1, k1, rfl, F1a⟩; have F1w := HF1.out.step F1a nop; have BTa := F1a.at_ HBT.out (fun x => x); obtain ⟨t0, t1, t2⟩ := cells3 BTa; have z0 := frozen_of BTa 0; have z1 := frozen_of BTa 1; have z2 := frozen_of BTa 2; have B3 := put3y (y0 := .int .i64 (ln 1 : Int)) (y1 := .int .i64 (ln 2 : Int)) (y2 := .int .i64 (ln 3 : Int)) BTa; have F3 := (Fr.refl (fun i => i = ab) wa).put3 (b := ab) (fun _ => rfl) (.int .i64 (ln 1 : Int)) (.int .i64 (ln 2 : Int)) (.int .i64 (ln 3 : Int)); generalize hwz : ((wa.setCell ⟨ab, 0, none⟩ (.int .i64 (ln 1 : Int))).setCell ⟨ab, 1, none⟩ (.int .i64 (ln 2 : Int))).setCell ⟨ab, 2, none⟩ (.int .i64 (ln 3 : Int)) = wz at B3 F3; have F4 : Fr (fun _ => False) w wz := F1w.step F3 HAB.out))
  all_goals
    have HFIN := Lib.hid (And.intro B3 F4)
    clear B3 F4 F3 F1w F1a BTa
    go_wp2_with fail
    exact ret_c rfl rfl HFIN.out.1 Try.underlying32 rfl (by kernel_rfl) ⟨by rw [HLN.out, HLN.out, HLN.out], HFIN.out.2⟩
/-! ### Drain -/
def Rd18Post (w : World) (nb tb B0 : Nat) (c : Cf) (rs : List Rl) (M : Md) (e : Ending) (w' : World) : Prop :=
  ∃ (out : List Ev) (ms' : List It) (Ao : Option Addr) (ko : Nat), e = .returned (.slice Ao out.length ko) ∧ Own RE.E 56 w' w.heap.size (.slice Ao out.length ko) out ∧ Drn out M.ms ms' ∧ ((out.length : Int) ≤ c.dr ∨ out = []) ∧ ((out.length : Int) < c.dr → ms' = []) ∧ (∃ A k, Rk w' nb tb B0 c rs A k ⟨ms', M.told, M.last, M.ref⟩) ∧ Fr (fun i => i = nb) w w'
theorem tk_good {ms ms2 : List It} {p x1 x3 : Int} {x2 ok : Bool} (hg : GoodQ ms) (ht : tkOut ms ms2 p x1 x2 x3 ok) : GoodQ ms2 ∧ ms2.length ≤ ms.length := by
  rcases ht with ⟨rfl, rfl, _⟩ | ⟨_, b, hB, hbx, rfl⟩
  · exact ⟨hg, Nat.le_refl _⟩
  · obtain ⟨t1, t2, t3⟩ := bnd_take hB
    rw [hbx] at t1 t2
    simp only at t1 t2
    refine ⟨⟨fun y hy => hg.1 y ?_, fun m hm => ?_⟩, by rw [List.length_append, List.length_take, List.length_drop]; have := hB.1; omega⟩
    · rcases List.mem_append.1 hy with h | h
      · exact List.mem_of_mem_take h
      · exact List.mem_of_mem_drop h
    · by_cases e : (m : Int) + 1 = p
      · have h := hg.2 m hm
        rw [e, t1] at h
        rw [e]; exact h.tail
      · rw [t2 _ e]; exact hg.2 m hm
def slN : Value → Nat
  | .slice _ n _ => n
  | _ => 0
theorem rk_take {w : World} {nb tb B0 : Nat} {c : Cf} {rs : List Rl} {A : Option Addr} {k : Nat} {M : Md} (h : Rk w nb tb B0 c rs A k M) (hl : M.ms.length ≤ 900) :
    Calls Try.prog 32 #[.agg #[.int .i64 c.b0, .int .i64 c.b1, .int .i64 c.b2, .slice A M.ms.length k]] w fun e w' => ∃ (ms2 : List It) (A1 : Option Addr) (n1 k1 : Nat) (p x1 : Int) (x2 : Bool) (x3 : Int) (ok : Bool),
      e = .returned (.tuple #[.agg #[.int .i64 c.b0, .int .i64 c.b1, .int .i64 c.b2, .slice A1 n1 k1], .agg #[.int .i64 x1, .bool x2, .int .i64 x3], .int .u8 p, .bool ok]) ∧ ms2.length = n1 ∧ Reads EIt w' A1 n1 ms2 ∧ (∀ ad, A1 = some ad → 0 < n1 → w.heap.size ≤ ad.block) ∧ n1 ≤ k1 ∧ tkOut M.ms ms2 p x1 x2 x3 ok ∧ Fr (fun _ => False) w w' := by
  refine (rtake w c.b0 c.b1 c.b2 A M.ms.length k M.ms h.it hl h.kl).mono ?_
  rintro e w' (⟨hm0, rfl, F8⟩ | ⟨b, x0, x1, x2, x3, A1, n1, k1, hB, hbx, hn1, rfl, R8, hA8, hk8, F8⟩)
  · have h0 : M.ms = [] := List.eq_nil_of_length_eq_zero hm0
    exact ⟨[], A, 0, k, 0, 0, false, 0, false, rfl, rfl, ⟨rfl, .inl rfl⟩, fun _ _ h => absurd h (Nat.lt_irrefl _), Nat.zero_le _, .inl ⟨h0, rfl, rfl, rfl, rfl, rfl, rfl⟩, F8⟩
  · exact ⟨_, A1, n1, k1, x0, x1, x2, x3, true, rfl, R8.1, R8, fun ad ha _ => hA8 ad ha, hk8, .inr ⟨rfl, b, hB, hbx, rfl⟩, F8⟩
set_option maxRecDepth 100000 in
set_option maxHeartbeats 8000000 in
theorem rkdrain (w : World) (nb tb B0 : Nat) (c : Cf) (rs : List Rl) (A0 : Option Addr) (k0 : Nat) (M : Md) (h : Rk w nb tb B0 c rs A0 k0 M) (hdr : c.dr ≤ 1000) (hl : M.ms.length ≤ 900) :
    Calls Try.prog 21 #[.pointer (some ⟨nb, 0, none⟩)] w (Rd18Post w nb tb B0 c rs M) := by
  have HH := Lib.hid h
  obtain ⟨i0, hii, hz0, hz1, hz2⟩ := info_parts RE.infoE
  have HINF := Lib.hid (And.intro hii (And.intro hz0 (And.intro hz1 hz2)))
  clear h hii hz0 hz1 hz2
  go_enter Try.func21, Try.ntmps21
  go_wp2_with fail
  go_loopw [3] (fun v wr => ∃ (out : List Ev) (ms' : List It) (Ao : Option Addr) (n ko : Nat) (A : Option Addr) (k : Nat), v = .slice Ao n ko ∧ out.length = n ∧ Own RE.E 56 wr w.heap.size (.slice Ao n ko) out ∧ Drn out M.ms ms' ∧ ((n : Int) ≤ c.dr ∨ n = 0) ∧ ms'.length ≤ 900 ∧ Rk wr nb tb B0 c rs A k ⟨ms', M.told, M.last, M.ref⟩ ∧ Fr (fun i => i = nb) w wr) (fun v _ => 2000 - slN v)
  case atStart => exact ⟨[], M.ms, none, 0, 0, A0, k0, rfl, rfl, Own.nil _ _ _ _, rfl, .inr rfl, hl, HH.out, Fr.refl _ _⟩
  case round =>
    obtain ⟨out, ms', Ao, n, ko, A, k, rfl, hln, Ow, hdn, hnd, hml, hI, F⟩ := hrel
    have HI := Lib.hid hI
    have HOw := Lib.hid Ow
    have HF := Lib.hid F
    have HDN := Lib.hid hdn
    have HLN := Lib.hid hln
    have HML := Lib.hid hml
    obtain ⟨-, -, -, -, -, -, b6, -, -, -, -, b11, b12, b13, b14, -, -, -⟩ := cells18 hI.sb
    have HTK := Lib.hid (rk_take hI hml)
    clear hI Ow F hdn hln hml
    by_cases hlt : (n : Int) < c.dr
    · go_wp2_with fail
      refine HTK.out.mono ?_
      rintro e w8 ⟨ms2, A1, n1, k1, p, x1, x2, x3, ok, rfl, hn1, R8, hA1, hk1, hT, F8⟩
      have HT := Lib.hid hT
      have HR8 := Lib.hid R8
      have HN1 := Lib.hid (And.intro hn1 (And.intro hA1 hk1))
      clear b6 b11 b12 b13 b14 hn1 R8 hA1 hk1 hT
      have Bq := alloc_at (alloc_is (w := w8) (n := w8.heap.size) (.cells #[.int .i64 0, .int .i64 0, .int .i64 0, .slice none 0 0] 67) rfl) (.cells #[.int .i64 0, .bool false, .int .i64 0] 56)
      have Be := alloc_is (w := w8.alloc (.cells #[.int .i64 0, .int .i64 0, .int .i64 0, .slice none 0 0] 67)) (n := w8.heap.size + 1) (.cells #[.int .i64 0, .bool false, .int .i64 0] 56) (by simp)
      have Fa := ((Fr.refl (fun _ => False) w8).alloc (.cells #[.int .i64 0, .int .i64 0, .int .i64 0, .slice none 0 0] 67)).alloc (.cells #[.int .i64 0, .bool false, .int .i64 0] 56)
      generalize hwm : (w8.alloc (.cells #[.int .i64 0, .int .i64 0, .int .i64 0, .slice none 0 0] 67)).alloc (.cells #[.int .i64 0, .bool false, .int .i64 0] 56) = wm at Bq Be Fa
      obtain ⟨p0, p1, p2, p3⟩ := cells4 Bq
      have zp0 := frozen_of Bq 0
      have zp1 := frozen_of Bq 1
      have zp2 := frozen_of Bq 2
      have zp3 := frozen_of Bq 3
      have BQ := put4y (y0 := .int .i64 c.b0) (y1 := .int .i64 c.b1) (y2 := .int .i64 c.b2) (y3 := .slice A1 n1 k1) Bq
      have FQ := (Fr.refl (fun i => i = w8.heap.size) wm).put4 (b := w8.heap.size) (fun _ => rfl) (.int .i64 c.b0) (.int .i64 c.b1) (.int .i64 c.b2) (.slice A1 n1 k1)
      generalize hwq : ((((wm.setCell ⟨w8.heap.size, 0, none⟩ (.int .i64 c.b0)).setCell ⟨w8.heap.size, 1, none⟩ (.int .i64 c.b1)).setCell ⟨w8.heap.size, 2, none⟩ (.int .i64 c.b2)).setCell ⟨w8.heap.size, 3, none⟩ (.slice A1 n1 k1)) = wq at BQ FQ
      have Be2 := FQ.at_ Be (fun (e : w8.heap.size + 1 = w8.heap.size) => by omega)
      obtain ⟨u0, u1, u2⟩ := cells3 Be2
      have zu0 := frozen_of Be2 0
      have zu1 := frozen_of Be2 1
      have zu2 := frozen_of Be2 2
      have BE := put3y (y0 := .int .i64 x1) (y1 := .bool x2) (y2 := .int .i64 x3) Be2
      have FE := (Fr.refl (fun i => i = w8.heap.size + 1) wq).put3 (b := w8.heap.size + 1) (fun _ => rfl) (.int .i64 x1) (.bool x2) (.int .i64 x3)
      generalize hwe : (((wq.setCell ⟨(w8.heap.size + 1), 0, none⟩ (.int .i64 x1)).setCell ⟨(w8.heap.size + 1), 1, none⟩ (.bool x2)).setCell ⟨(w8.heap.size + 1), 2, none⟩ (.int .i64 x3)) = we at BE FE
      have BQe := FE.at_ BQ (fun (e : w8.heap.size = w8.heap.size + 1) => by omega)
      have FY : Fr (fun _ => False) w8 we := (Fa.trans FQ (fun i hi (h : i = w8.heap.size) => by omega)).trans FE (fun i hi (h : i = w8.heap.size + 1) => by omega)
      have FX := F8.step FY nop
      obtain ⟨q0, q1, q2, q3⟩ := cells4 BQe
      obtain ⟨v0, v1, v2⟩ := cells3 BE
      have GB := FX.at_ HI.out.sb (fun x => x)
      obtain ⟨-, -, -, -, -, -, -, -, -, -, -, b11, b12, b13, b14, -, -, -⟩ := cells18 GB
      have z11 := frozen_of GB 11
      have z12 := frozen_of GB 12
      have z13 := frozen_of GB 13
      have z14 := frozen_of GB 14
      have HFX := Lib.hid FX
      have HFY := Lib.hid FY
      have HGOOD := Lib.hid (tk_good HI.out.gq HT.out)
      have HOe := Lib.hid (HOw.out.fr FX (fun _ _ x => x))
      have HFe := Lib.hid (HF.out.trans FX (fun _ _ x => x.elim))
      have HS8 : Hid (wr.heap.size ≤ w8.heap.size) := Lib.hid F8.size
      clear FX FY F8 Fa FQ FE Bq Be Be2
      cases ok
      · have HM2 : Hid (ms' = []) := Lib.hid (by rcases HT.out with h | h; exact h.1; exact absurd h.1 (by simp))
        clear q0 q1 q2 q3 v0 v1 v2 b11 b12 b13 b14 z11 z12 z13 z14 BQe BE BQ GB
        go_wp2_with fail
        go_ret
        exact ⟨out, ms', Ao, ko, by rw [HLN.out]; rfl, by rw [HLN.out]; exact HOe.out, HDN.out, .inl (by rw [HLN.out]; omega), fun _ => HM2.out, ⟨A, k, HI.out.calm HFX.out⟩, HFe.out⟩
      · have HDN2 : Hid (Drn (out ++ [(x1, x2, x3)]) M.ms ms2) := Lib.hid (HDN.out.snoc HT.out)
        have HEV := Lib.hid BE
        have B9 : ((((we.setCell ⟨nb, 11, none⟩ (.int .i64 c.b0)).setCell ⟨nb, 12, none⟩ (.int .i64 c.b1)).setCell ⟨nb, 13, none⟩ (.int .i64 c.b2)).setCell ⟨nb, 14, none⟩ (.slice A1 n1 k1)).heap[nb]? = some (.cells #[.slice c.s1 c.s2 c.s3, .slice c.rv c.N c.rk, .slice c.tv c.t c.tk, .int .i64 c.b0, .int .i64 c.b1, .int .i64 c.b2, .int .i64 c.dr, .int .i64 c.pa, .int .i64 c.of_, .bool c.br, .int .i64 c.lg, .int .i64 c.b0, .int .i64 c.b1, .int .i64 c.b2, .slice A1 n1 k1, .slice (some ⟨tb, 0, none⟩) c.N c.N, .int .i64 M.last, .int .i64 (M.ref)] 69 (0, 0)) := set_at (set_at (set_at (set_at GB 11 _) 12 _) 13 _) 14 _
        have F9 := ((((Fr.refl (fun i => i = nb) we).setCell (p := ⟨nb, 11, none⟩) (fun _ => rfl) (.int .i64 c.b0)).setCell (p := ⟨nb, 12, none⟩) (fun _ => rfl) (.int .i64 c.b1)).setCell (p := ⟨nb, 13, none⟩) (fun _ => rfl) (.int .i64 c.b2)).setCell (p := ⟨nb, 14, none⟩) (fun _ => rfl) (.slice A1 n1 k1)
        generalize hwn : (((we.setCell ⟨nb, 11, none⟩ (.int .i64 c.b0)).setCell ⟨nb, 12, none⟩ (.int .i64 c.b1)).setCell ⟨nb, 13, none⟩ (.int .i64 c.b2)).setCell ⟨nb, 14, none⟩ (.slice A1 n1 k1) = wn at B9 F9
        have HB9 := Lib.hid B9
        have HF9 := Lib.hid F9
        have BEn := F9.at_ BE (fun (e : w8.heap.size + 1 = nb) => by have := HS8.out; have h1 := HI.out.nB.1; have h2 := HI.out.nB.2.2; omega)
        obtain ⟨v0, v1, v2⟩ := cells3 BEn
        have HOn := Lib.hid (HOe.out.fr F9 (fun kk hk (e : kk = nb) => by have := (HOw.out.blk kk hk).1; have h1 := HH.out.nB.1; have h2 := HH.out.nB.2.2; omega))
        have HFn := Lib.hid (HFe.out.trans F9 (fun _ _ h => h))
        obtain ⟨hii, hz0, hz1, hz2⟩ := HINF.out
        have hl1 : Hid (out.length + 1 ≤ maxLen) := Lib.hid (by have := HLN.out; unfold maxLen; omega)
        have hl2 : Hid ((out.length + 1) * 24 ≤ 140737488355328) := Lib.hid (by have := HLN.out; omega)
        have hl3 : Hid (∀ X, w.heap.size ≤ (wn.alloc X).heap.size) := Lib.hid (fun X => by have := HFn.out.size; simp; omega)
        clear B9 F9 BE BQ BQe GB BEn
        go_wp2_with (at_builtin; refine append_one RE.E 56 rfl _ _ 53 rfl i0 _ 24 Try.underlying53 hii hz0 hz1 hz2 rfl w.heap.size _ _ rfl (HOn.out.alloc _) ⟨wn.heap.size, 0, none⟩ 1 (x1, x2, x3) rfl ?c1 ?c2 hl1.out hl2.out (hl3.out _) ?_)
        case c1 => first | exact lit_cells (W := wn) (cs := [.int .i64 x1, .bool x2, .int .i64 x3]) rfl | exact fun j u hu => hu
        case c2 => intro u hu; simp [RE.E] at hu; rcases hu with rfl | rfl | rfl <;> rfl
        intro v' w7 hown hgrow
        obtain ⟨A', c', hv, -, -⟩ := hown.reads
        rw [List.length_append, List.length_singleton, HLN.out] at hv
        subst hv
        have hgr : ∀ kk, (Value.slice Ao n ko).ownBlock = some kk → w.heap.size ≤ kk ∧ kk < wr.heap.size := fun kk hk => HOw.out.blk kk hk
        have F47 : Fr (fun kk => (Value.slice Ao n ko).ownBlock = some kk) wn w7 := ((Fr.refl (fun kk => (Value.slice Ao n ko).ownBlock = some kk) wn).alloc (.cells #[.int .i64 x1, .bool x2, .int .i64 x3] 56)).trans ⟨hgrow.os, hgrow.tape, hgrow.output, hgrow.size, fun kk hk hn => hgrow.block kk hk (fun e => hn e.symm)⟩ (fun _ _ h => h)
        have HRK : Hid (Rk w7 nb tb B0 c rs A1 k1 ⟨ms2, M.told, M.last, M.ref⟩) := Lib.hid (by
          have hB := HI.out.nB
          have hBw := HH.out.nB.2.2
          have F57 : Fr (fun i => i = nb ∨ (Value.slice Ao n ko).ownBlock = some i) we w7 := (HF9.out.mono (S' := fun i => i = nb ∨ (Value.slice Ao n ko).ownBlock = some i) (fun _ _ h => .inl h)).trans F47 (fun _ _ h => .inr h)
          have FR7 : Fr (fun i => i = nb ∨ (Value.slice Ao n ko).ownBlock = some i) wr w7 := (HFX.out.mono (S' := fun i => i = nb ∨ (Value.slice Ao n ko).ownBlock = some i) (fun _ _ x => x.elim)).trans F57 (fun _ _ h => h)
          have hn1 : ms2.length = n1 := HN1.out.1
          have B97 := F47.at_ HB9.out (fun hk => by have := (hgr _ hk).1; omega)
          rw [← hn1] at B97
          refine ⟨B97, ?_, by rw [show (⟨ms2, M.told, M.last, M.ref⟩ : Md).ms.length = n1 from hn1]; exact HN1.out.2.2, fun ad ha h0 => by have := HN1.out.2.1 ad ha (by rw [← hn1]; exact h0); omega, ⟨hB.1, hB.2.1, Nat.le_trans hB.2.2 FR7.size⟩, HGOOD.out.1, FR7.at_ HI.out.td (fun e => by
            rcases e with e | e
            · exact HI.out.ne e.symm
            · have := (hgr _ e).1; omega), HI.out.tl, HI.out.rd.frn FR7 (fun ad ha h0 e => by
            rcases e with e | e
            · exact (HI.out.nr ad ha h0).1 e
            · have h1 := (hgr _ e).1
              have h2 := rd_lt HH.out.rd ha h0
              omega), HI.out.pr, HI.out.ne, HI.out.nr, HI.out.cN⟩
          show Reads EIt w7 A1 ms2.length ms2
          rw [hn1]
          exact (HR8.out.fr HFY.out (fun _ _ x => x)).frn F57 (fun ad ha h0 e => by
            have h1 := HN1.out.2.1 ad ha h0
            rcases e with e | e
            · omega
            · have := (hgr _ e).2; omega))
        have HF7 : Hid (Fr (fun i => i = nb) w w7) := Lib.hid (HFn.out.trans F47 (fun kk hlt hk => by have := (hgr kk hk).1; omega))
        have HO7 := Lib.hid hown
        have HML2 : Hid (ms2.length ≤ 900) := Lib.hid (by have := HGOOD.out.2; have := HML.out; omega)
        clear hown hgrow F47 hgr hii hz0 hz1 hz2 v0 v1 v2 b11 b12 b13 b14 z11 z12 z13 z14 q0 q1 q2 q3
        go_wp2
        go_roundw
        case rel => exact ⟨out ++ [(x1, x2, x3)], ms2, A', n + 1, c', A1, k1, rfl, by rw [List.length_append, List.length_singleton, HLN.out], HO7.out, HDN2.out, .inl (by omega), HML2.out, HRK.out, HF7.out⟩
        case measure => simp [slN]; omega
    · have HND : Hid ((n : Int) ≤ c.dr ∨ n = 0) := Lib.hid hnd
      go_wp2_with fail
      go_ret
      exact ⟨out, ms', Ao, ko, by rw [HLN.out]; rfl, by rw [HLN.out]; exact HOw.out, HDN.out, by rw [HLN.out]; rcases HND.out with h | h; exact .inl h; exact .inr (List.eq_nil_of_length_eq_zero (by rw [HLN.out]; exact h)), fun h => by rw [HLN.out] at h; omega, ⟨A, k, HI.out⟩, HF.out⟩

end Go.Proofs.Ytahddolplklopaa
