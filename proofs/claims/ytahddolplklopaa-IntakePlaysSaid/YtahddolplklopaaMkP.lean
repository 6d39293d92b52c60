/- MkP. -/
import Derived.Test.YtahddolplklopaaChecked
import Derived.WalkKit
import Derived.Laws.IdiomCopy
import Derived.Deep.QuietTactic
import Derived.BigQuiet
import Derived.Lib.Hide
import Derived.OpenShut
import Derived.StillTailTactics
import Derived.Deep.RegionWith
import Derived.Deep.RegionLaw
import Derived.Deep.Slices
import Derived.Deep.RegionHeld3
import Derived.OwnWalk
import Derived.Deep.DeepCutAuto
import Derived.Deep.CutRange
import Derived.Test.YtahddolplklopaaBase
import Derived.Test.YtahddolplklopaaCalm
import Derived.Test.YtahddolplklopaaCalmT
import Derived.Test.YtahddolplklopaaCel
import Derived.Test.YtahddolplklopaaApp
import Derived.Maps.AppendAt
import Derived.Test.YtahddolplklopaaMkD
namespace Go.Proofs.Ytahddolplklopaa
open Go.RowKit
set_option linter.unusedVariables false
set_option linter.unusedSimpArgs false

/-! ### Make: what it makes, in plain words -/
theorem Fr.of_grown {w w' : World} {row : Option Nat} (hg : w.grownBy w' row) : Fr (fun k => row = some k) w w' := ⟨hg.os, hg.tape, hg.output, hg.size, fun k hk hn => hg.block k hk (fun e => hn e.symm)⟩
theorem Own.low {α : Type} {E : El α} {te : TypeId} {w : World} {base base' : Nat} {v : Value} {l : List α} (h : Own E te w base v l) (hb : base' ≤ base) : Own E te w base' v l :=
  ⟨h.1, h.2.imp id (fun ⟨g, cap, cur, a, b, c⟩ => ⟨g, cap, cur, a, Nat.le_trans hb b, c⟩)⟩
theorem getD_l {α : Type} (l : List α) (x z : α) {m : Nat} (h : m < l.length) : (l ++ [x]).getD m z = l.getD m z := by
  simp only [List.getD_eq_getElem?_getD, List.getElem?_append_left h]
theorem getD_r {α : Type} (l : List α) (x z : α) : (l ++ [x]).getD l.length z = x := by
  simp [List.getD_eq_getElem?_getD]
theorem Reads.of_cells {α : Type} (E : El α) {w : World} {b : Nat} {te : TypeId} {xs : List α} (h : w.heap[b]? = some (.cells (E.flat xs) te (0, 0))) : Reads E w (some ⟨b, 0, none⟩) xs.length xs := by
  refine ⟨rfl, .inr ⟨_, rfl, fun q j hq hj => ?_⟩⟩
  rw [add_plain0, Nat.zero_add, cell_of h, ← El.flat_get E xs q j hq hj]
  simp [El.flat]
theorem wrapE (x : Int) : IntKind.i64.wrap x = wrap64 x := by rw [IntKind.wrap_i64, wrap64]
theorem w64_in {n : Int} (h0 : 0 ≤ n) (h1 : n ≤ 100000) : wrap64 n = n := by unfold wrap64; omega
theorem i64_in {n : Int} (h0 : 0 ≤ n) (h1 : n ≤ 100000) : IntKind.i64.wrap n = n := (wrapE n).trans (w64_in h0 h1)
def nxt (p z : Int) : Int := if 3 < p + z % 2 then 3 else p + z % 2
def stgp (p : Int) : List Int → Int
  | [] => p
  | z :: zs => stgp (nxt p z) zs
def stg (p : Int) : List Int → List (Int × Int)
  | [] => []
  | z :: zs => (1 + z / 2 % 12, nxt p z) :: stg (nxt p z) zs
theorem stgp_app (z : Int) : ∀ (l : List Int) (p : Int), stgp p (l ++ [z]) = nxt (stgp p l) z
  | [], _ => rfl
  | y :: l, p => stgp_app z l (nxt p y)
theorem stg_app (z : Int) : ∀ (l : List Int) (p : Int), stg p (l ++ [z]) = stg p l ++ [(1 + z / 2 % 12, nxt (stgp p l) z)]
  | [], _ => rfl
  | y :: l, p => by
    show _ :: stg (nxt p y) (l ++ [z]) = _
    rw [stg_app z l (nxt p y)]; rfl
theorem stg_length : ∀ (l : List Int) (p : Int), (stg p l).length = l.length
  | [], _ => rfl
  | y :: l, p => by show (stg (nxt p y) l).length + 1 = _; rw [stg_length l]; rfl
theorem nxt_rng {p z : Int} (h : 1 ≤ p ∧ p ≤ 3) (hz : 0 ≤ z) : p ≤ nxt p z ∧ 1 ≤ nxt p z ∧ nxt p z ≤ 3 := by
  unfold nxt; split <;> omega
theorem stgp_rng : ∀ (l : List Int) (p : Int), 1 ≤ p ∧ p ≤ 3 → (∀ z, z ∈ l → 0 ≤ z) → 1 ≤ stgp p l ∧ stgp p l ≤ 3
  | [], _, h, _ => h
  | y :: l, p, h, hz => stgp_rng l _ (nxt_rng h (hz y List.mem_cons_self)).2 (fun z hm => hz z (List.mem_cons_of_mem _ hm))
def mkK (x : Ln) : Int := x.k % 6 + 1
def mkP (x : Ln) : Int := x.p % 3 + 1
def mkL (x : Ln) : Int := if mkK x = 1 ∨ mkK x = 2 then x.l else if mkK x = 3 ∨ mkK x = 4 then 1 + x.l % 60 else 0
def mkB (x : Ln) : Int := if mkK x = 1 then x.l - x.b % 20 else if mkK x = 2 then x.l + x.b % 20 else if mkK x = 3 ∨ mkK x = 4 then x.b % (1 + x.l % 60 + 1) else 0
def mkSp (x : Ln) : Int := if mkK x = 3 ∨ mkK x = 4 ∨ mkK x = 5 then 1 + x.sp % 12 else 0
structure RlOf (x : Ln) (zs : List Int) (r : Rl) : Prop where
  k : r.k = mkK x
  s : r.s = x.s % 3
  l : r.l = mkL x
  b : r.b = mkB x
  d : r.d = x.d % 8
  sp : r.sp = mkSp x
  p : r.p = mkP x
  la : r.la = x.la
  n : r.n = (stg (mkP x) (zs.take 4)).length
theorem mk1 {x : Ln} (h : mkK x = 1) : x.l = mkL x ∧ x.l - x.b % 20 = mkB x ∧ 0 = mkSp x := by
  unfold mkL mkB mkSp; rw [if_pos (.inl h), if_pos h, if_neg (by omega)]; exact ⟨rfl, rfl, rfl⟩
theorem mk2 {x : Ln} (h : mkK x = 2) : x.l = mkL x ∧ x.l + x.b % 20 = mkB x ∧ 0 = mkSp x := by
  unfold mkL mkB mkSp; rw [if_pos (.inr h), if_neg (by omega), if_pos h, if_neg (by omega)]; exact ⟨rfl, rfl, rfl⟩
theorem mk34 {x : Ln} (h : mkK x = 3 ∨ mkK x = 4) : 1 + x.l % 60 = mkL x ∧ x.b % (1 + x.l % 60 + 1) = mkB x ∧ 1 + x.sp % 12 = mkSp x := by
  unfold mkL mkB mkSp; rw [if_neg (by omega), if_pos h, if_neg (by omega), if_neg (by omega), if_pos h, if_pos (by omega)]; exact ⟨rfl, rfl, rfl⟩
theorem mk5 {x : Ln} (h : mkK x = 5) : 0 = mkL x ∧ 0 = mkB x ∧ 1 + x.sp % 12 = mkSp x := by
  unfold mkL mkB mkSp; rw [if_neg (by omega), if_neg (by omega), if_neg (by omega), if_neg (by omega), if_neg (by omega), if_pos (by omega)]; exact ⟨rfl, rfl, rfl⟩
theorem mk6 {x : Ln} (h : mkK x = 6) : 0 = mkL x ∧ 0 = mkB x ∧ 0 = mkSp x := by
  unfold mkL mkB mkSp; rw [if_neg (by omega), if_neg (by omega), if_neg (by omega), if_neg (by omega), if_neg (by omega), if_neg (by omega)]; exact ⟨rfl, rfl, rfl⟩
def nRul (n : Nat) : Nat := if n = 0 then 1 else if n < 8 then n else 8
/-- A draft as it lies. -/
structure Dft (w : World) (A0 : Option Addr) (n0 : Nat) (ls : List Ln) (ss : List (List Int)) (A1 : Option Addr) (n1 : Nat) (sl : List Int) : Prop where
  rd : Reads ELn w A0 n0 ls
  ssl : ss.length = n0
  st : ∀ i, i < n0 → Reads EU w (ls.getD i ELn.z).A (ls.getD i ELn.z).n (ss.getD i [])
  sd : Reads EU w A1 n1 sl
  lw : ∀ y, y ∈ ls → y.wf
  sw : ∀ i, i < n0 → ∀ z, z ∈ ss.getD i [] → byte z
  tw : ∀ z, z ∈ sl → byte z
theorem Dft.calm {w w' : World} {A0 : Option Addr} {n0 : Nat} {ls : List Ln} {ss : List (List Int)} {A1 : Option Addr} {n1 : Nat} {sl : List Int} (h : Dft w A0 n0 ls ss A1 n1 sl) (hf : Fr (fun _ => False) w w') : Dft w' A0 n0 ls ss A1 n1 sl :=
  ⟨h.rd.fr hf (fun _ _ x => x), h.ssl, fun i hi => (h.st i hi).fr hf (fun _ _ x => x), h.sd.fr hf (fun _ _ x => x), h.lw, h.sw, h.tw⟩

/-- No number twice, and none but the rules'. -/
def RowOk (N : Nat) (l : List Int) : Prop := l.Nodup ∧ ∀ y, y ∈ l → 0 ≤ y ∧ y < (N : Int)
theorem pig : ∀ (N : Nat) (l : List Int), RowOk N l → l.length ≤ N
  | 0, l, h => by
    cases l with
    | nil => exact Nat.le_refl _
    | cons y l => have := h.2 y List.mem_cons_self; omega
  | N + 1, l, h => by
    by_cases hm : (N : Int) ∈ l
    · have h1 := List.length_erase_of_mem hm
      have h2 := pig N (l.erase (N : Int)) ⟨h.1.erase _, fun y hy => by
        have h3 := (h.1.mem_erase_iff).1 hy
        have h4 := h.2 y h3.2
        have h5 : y ≠ (N : Int) := h3.1
        push_cast at h4
        omega⟩
      omega
    · have := pig N l ⟨h.1, fun y hy => by
        have h4 := h.2 y hy
        have h5 : y ≠ (N : Int) := fun e => hm (e ▸ hy)
        push_cast at h4
        omega⟩
      omega
theorem RowOk.app {N : Nat} {l : List Int} (h : RowOk N l) {x : Int} (hx : 0 ≤ x ∧ x < (N : Int)) (hn : ∀ q, q < l.length → l.getD q 0 ≠ x) : RowOk N (l ++ [x]) := by
  refine ⟨List.nodup_append.2 ⟨h.1, List.nodup_cons.2 ⟨fun h => by simp at h, List.nodup_nil⟩, fun a ha b hb => ?_⟩, fun y hy => ?_⟩
  · rw [List.mem_singleton.1 hb]
    obtain ⟨q, hq, rfl⟩ := List.mem_iff_getElem.1 ha
    have := hn q hq
    rw [List.getD_eq_getElem?_getD, List.getElem?_eq_getElem hq] at this
    exact this
  · rcases List.mem_append.1 hy with h1 | h1
    · exact h.2 y h1
    · rw [List.mem_singleton.1 h1]; exact hx
/-- A table as the call makes it. -/
structure TbR (w : World) (B N t : Nat) (tv : Option Addr) (tk : Nat) (vs : List Tr) (tb : List (List Int)) : Prop where
  vl : vs.length = t
  tl : tb.length = t
  own : Own ETr 39 w B (.slice tv t tk) vs
  row : ∀ q, q < t → Own EI 3 w B (Tr.v (vs.getD q ETr.z)) (tb.getD q [])
  ok : ∀ q, q < t → RowOk N (tb.getD q [])
  apt : ∀ q, q < t → ∀ k, (Tr.v (vs.getD q ETr.z)).ownBlock = some k → (Value.slice tv t tk).ownBlock ≠ some k
  apr : ∀ q p, q < t → p < t → p ≠ q → ∀ k, (Tr.v (vs.getD q ETr.z)).ownBlock = some k → (Tr.v (vs.getD p ETr.z)).ownBlock ≠ some k
theorem TbR.fr {S : Nat → Prop} {w w' : World} {B N t : Nat} {tv : Option Addr} {tk : Nat} {vs : List Tr} {tb : List (List Int)} (h : TbR w B N t tv tk vs tb) (hf : Fr S w w') (hs : ∀ k, S k → k < B) : TbR w' B N t tv tk vs tb :=
  ⟨h.vl, h.tl, h.own.fr hf (fun k hk e => by have := (h.own.blk k hk).1; have := hs k e; omega), fun q hq => (h.row q hq).fr hf (fun k hk e => by have := ((h.row q hq).blk k hk).1; have := hs k e; omega), h.ok, h.apt, h.apr⟩
theorem Own.at0 {α : Type} {E : El α} {te : TypeId} {w : World} {base n c : Nat} {A : Option Addr} {l : List α} (h : Own E te w base (.slice A n c) l) (hn : 0 < n) : ∃ g, A = some ⟨g, 0, none⟩ ∧ base ≤ g ∧ ∀ i, w.frozen? ⟨g, i, none⟩ = false := by
  rcases h.2 with ⟨h1, _⟩ | ⟨g, cap, cur, h1, hb, hg, _⟩
  · injection h1 with _ e _; omega
  · injection h1 with e1 _ _
    exact ⟨g, e1, hb, fun i => frozen_of hg i⟩
theorem stands_app {tb : List (List Int)} {t : Nat} (ht : t < tb.length) {x q : Int} (h : stands tb q) : stands (tb.set t (tb.getD t [] ++ [x])) q := by
  obtain ⟨i, k, hi, hk, e⟩ := h
  by_cases hit : i = t
  · subst hit
    refine ⟨i, k, by rw [List.length_set]; exact hi, ?_, ?_⟩
    · rw [getD_set_same _ _ _ _ hi, List.length_append]; omega
    · rw [getD_set_same _ _ _ _ hi, getD_l _ _ _ hk]; exact e
  · refine ⟨i, k, by rw [List.length_set]; exact hi, ?_, ?_⟩
    · rw [getD_set_ne _ _ _ _ _ (fun e => hit e.symm)]; exact hk
    · rw [getD_set_ne _ _ _ _ _ (fun e => hit e.symm)]; exact e
theorem stands_new {tb : List (List Int)} {t : Nat} (ht : t < tb.length) (x : Int) : stands (tb.set t (tb.getD t [] ++ [x])) x :=
  ⟨t, (tb.getD t []).length, by rw [List.length_set]; exact ht, by rw [getD_set_same _ _ _ _ ht, List.length_append]; simp, by rw [getD_set_same _ _ _ _ ht, getD_r]⟩
theorem TbR.grow {w3 wB w4 : World} {B N t t' tg tk rc c2 : Nat} {vs : List Tr} {tb : List (List Int)} {rA A2 : Option Addr} {l : List Int} {x : Int} (h : TbR w3 B N t (some ⟨tg, 0, none⟩) tk vs tb) (ht : t = t' + 1)
    (hrw : vs.getD t' ETr.z = (rA, l.length, rc)) (hl : tb.getD t' [] = l) (hx : 0 ≤ x ∧ x < (N : Int)) (hnot : ¬ stands tb x) (hB : Fr (fun _ => False) w3 wB) (hown : Own EI 3 w4 B (.slice A2 (l.length + 1) c2) (l ++ [x]))
    (hg : wB.grownBy w4 (Value.slice rA l.length rc).ownBlock) (hat : (Value.slice A2 (l.length + 1) c2).ownBlock = (Value.slice rA l.length rc).ownBlock ∨ (Value.slice A2 (l.length + 1) c2).ownBlock = some wB.heap.size) :
    TbR (w4.setCell ⟨tg, t', none⟩ (.slice A2 (l.length + 1) c2)) B N t (some ⟨tg, 0, none⟩) tk (vs.set t' (A2, l.length + 1, c2)) (tb.set t' (l ++ [x])) ∧ Fr (fun k => B ≤ k) w3 (w4.setCell ⟨tg, t', none⟩ (.slice A2 (l.length + 1) c2)) := by
  have htt : t' < t := by omega
  have hvl := h.vl
  have htl := h.tl
  have hrow := h.row t' htt
  rw [hrw] at hrow
  have hblk := hrow.blk
  have hneT : ∀ k, (Value.slice rA l.length rc).ownBlock = some k → k ≠ tg := fun k hk e => h.apt t' htt k (by rw [hrw]; exact hk) (by rw [e]; rfl)
  have htg := h.own.blk tg rfl
  have F34 : Fr (fun k => (Value.slice rA l.length rc).ownBlock = some k) w3 w4 := (hB.mono (S' := fun k => (Value.slice rA l.length rc).ownBlock = some k) (fun _ _ x => x.elim)).trans (Fr.of_grown hg) (fun _ _ h => h)
  have own4 : Own ETr 39 w4 B (.slice (some ⟨tg, 0, none⟩) t tk) vs := h.own.fr F34 (fun k hk e => by
    have : tg = k := by injection hk
    exact hneT k e this.symm)
  have own5 := own4.set1 rfl (q := t') (by omega) (A2, l.length + 1, c2) (u := .slice A2 (l.length + 1) c2) rfl
  have F45 := (Fr.refl (fun k => k = tg) w4).setCell (p := ⟨tg, t', none⟩) (fun _ => rfl) (.slice A2 (l.length + 1) c2)
  have F35 : Fr (fun k => (Value.slice rA l.length rc).ownBlock = some k ∨ k = tg) w3 (w4.setCell ⟨tg, t', none⟩ (.slice A2 (l.length + 1) c2)) := (F34.mono (S' := fun k => (Value.slice rA l.length rc).ownBlock = some k ∨ k = tg) (fun _ _ h => .inl h)).trans F45 (fun _ _ h => .inr h)
  have hnew : ∀ k, (Value.slice A2 (l.length + 1) c2).ownBlock = some k → k ≠ tg := fun k hk e => by
    rcases hat with h1 | h1
    · exact hneT k (by rw [← h1]; exact hk) e
    · rw [h1] at hk
      injection hk with hk
      have := hB.size
      omega
  refine ⟨⟨by rw [List.length_set]; exact hvl, by rw [List.length_set]; exact htl, own5, fun q hq => ?_, fun q hq => ?_, fun q hq k hk e => ?_, fun q p hq hp hpq k hk e => ?_⟩, F35.mono fun k _ e => by
    rcases e with e | e
    · exact (hblk k e).1
    · rw [e]; exact htg.1⟩
  · by_cases e : q = t'
    · subst e
      rw [getD_set_same _ _ _ _ (by omega), getD_set_same _ _ _ _ (by omega)]
      exact hown.fr F45 (fun k hk e => hnew k hk e)
    · rw [getD_set_ne _ _ _ _ _ (fun h => e h.symm), getD_set_ne _ _ _ _ _ (fun h => e h.symm)]
      refine (h.row q hq).fr F35 (fun k hk e2 => ?_)
      rcases e2 with e2 | e2
      · exact h.apr q t' hq htt (fun h => e h.symm) k hk (by rw [hrw]; exact e2)
      · exact h.apt q hq k hk (by rw [e2]; rfl)
  · by_cases e : q = t'
    · subst e
      rw [getD_set_same _ _ _ _ (by omega)]
      have hok := h.ok q htt
      rw [hl] at hok
      exact hok.app hx (fun j hj e => hnot ⟨q, j, by omega, by rw [hl]; exact hj, by rw [hl]; exact e⟩)
    · rw [getD_set_ne _ _ _ _ _ (fun h => e h.symm)]; exact h.ok q hq
  · have hkt : tg = k := by injection e
    by_cases e2 : q = t'
    · subst e2
      rw [getD_set_same _ _ _ _ (by omega)] at hk
      exact hnew k hk hkt.symm
    · rw [getD_set_ne _ _ _ _ _ (fun h => e2 h.symm)] at hk
      exact h.apt q hq k hk (by rw [← hkt]; rfl)
  · by_cases e1 : q = t'
    · by_cases e2 : p = t'
      · omega
      · subst e1
        rw [getD_set_same _ _ _ _ (by omega)] at hk
        rw [getD_set_ne _ _ _ _ _ (fun h => e2 h.symm)] at e
        rcases hat with h1 | h1
        · exact h.apr q p hq hp hpq k (by rw [hrw]; show (Value.slice rA l.length rc).ownBlock = some k; rw [← h1]; exact hk) e
        · have := ((h.row p hp).blk k e).2
          have h2 : (Value.slice A2 (l.length + 1) c2).ownBlock = some k := hk
          rw [h1] at h2
          injection h2 with h2
          have := hB.size
          omega
    · rw [getD_set_ne _ _ _ _ _ (fun h => e1 h.symm)] at hk
      by_cases e2 : p = t'
      · subst e2
        rw [getD_set_same _ _ _ _ (by omega)] at e
        rcases hat with h1 | h1
        · exact h.apr q p hq hp hpq k hk (by rw [hrw]; show (Value.slice rA l.length rc).ownBlock = some k; rw [← h1]; exact e)
        · have := ((h.row q hq).blk k hk).2
          have h2 : (Value.slice A2 (l.length + 1) c2).ownBlock = some k := e
          rw [h1] at h2
          injection h2 with h2
          have := hB.size
          omega
      · rw [getD_set_ne _ _ _ _ _ (fun h => e2 h.symm)] at e
        exact h.apr q p hq hp hpq k hk e
theorem TbR.tbl {w : World} {B N t : Nat} {tv : Option Addr} {tk : Nat} {vs : List Tr} {tb : List (List Int)} (h : TbR w B N t tv tk vs tb) : Tbl w tv t vs tb := by
  refine ⟨?_, h.tl, fun q hq => ?_⟩
  · obtain ⟨A, c, hv, rd, _⟩ := h.own.reads
    cases hv
    rw [h.vl] at rd; exact rd
  · obtain ⟨A, c, hv, rd, _⟩ := (h.row q hq).reads
    unfold Tr.v at hv
    injection hv with e1 e2 e3
    rw [e1, e2]; exact rd
/-- A rule's stages, so far. -/
structure StR (P : Int) (zs : List Int) (m : Nat) (s7 : Value) (w : World) (rb : Nat) (wt : World) (sA : Option Addr) (sk : Nat) (rc : Value → Array Value) : Prop where
  p : s7 = .int .u8 (stgp P (zs.take m))
  le : m ≤ zs.length ∧ m ≤ 4
  r : w.heap[rb]? = some (.cells (rc (.slice sA m sk)) 38 (0, 0))
  own : Own ESt 75 w wt.heap.size (.slice sA m sk) (stg P (zs.take m))
  fr : Fr (fun i => i = rb) wt w
/-- The rules that are made, so far. -/
structure MkRs (w : World) (B : Nat) (ls : List Ln) (ss : List (List Int)) (rv : Option Addr) (rk j : Nat) (rs : List Rl) : Prop where
  len : rs.length = j
  own : Own ERl 38 w B (.slice rv j rk) rs
  of_ : ∀ m, m < j → RlOf (ls.getD m ELn.z) (ss.getD m []) (rs.getD m ERl.z)
  st : ∀ m, m < j → Own ESt 75 w B (.slice (rs.getD m ERl.z).A (rs.getD m ERl.z).n (rs.getD m ERl.z).c) (stg (mkP (ls.getD m ELn.z)) ((ss.getD m []).take 4))
  ap : ∀ m, m < j → ∀ k, (Value.slice (rs.getD m ERl.z).A (rs.getD m ERl.z).n (rs.getD m ERl.z).c).ownBlock = some k → (Value.slice rv j rk).ownBlock ≠ some k
def MkR (wo1 : World) (cb sb B : Nat) (ls : List Ln) (ss : List (List Int)) (n0 j : Nat) (wr : World) : Prop :=
  ∃ (rv : Option Addr) (rk : Nat) (rs : List Rl), j ≤ nRul n0 ∧ wr.heap[cb]? = some (.cells #[.slice (some ⟨sb, 0, none⟩) 3 3, .slice rv j rk, .slice none 0 0, .int .i64 0, .int .i64 0, .int .i64 0, .int .i64 0, .int .i64 0, .int .i64 0, .bool false, .int .i64 0] 34 (0, 0)) ∧ MkRs wr B ls ss rv rk j rs ∧ Fr (fun k => k = cb) wo1 wr
def mkDr (tb : List (List Int)) (t : Nat) (gd : Int) : Int := ((entries tb / t : Nat) : Int) + 1 + gd % 4 / 3 * 2
def mkSg : List (Int × Int) := [(-100, 300), (0, 250), (-2147483648, 2147483647)]
/-- What Make leaves. -/
structure Mkd (w : World) (B : Nat) (n0 : Nat) (ls : List Ln) (ss : List (List Int)) (gb : Int) (sb : Nat) (rv : Option Addr) (rk : Nat) (rs : List Rl) (t : Nat) (tv : Option Addr) (tk : Nat) (vs : List Tr) (tb : List (List Int)) : Prop where
  nt : (t : Int) = 1 + gb / 16 % 6
  hsb : B ≤ sb
  sg : Reads ESg w (some ⟨sb, 0, none⟩) 3 mkSg
  hrs : MkRs w B ls ss rv rk (nRul n0) rs
  htb : TbR w B (nRul n0) t tv tk vs tb
  st : ∀ q : Nat, q < nRul n0 → stands tb q
def MkPost (W : World) (n0 : Nat) (ls : List Ln) (ss : List (List Int)) (gb gd gp go_ : Int) (gk : Bool) (gl : Int) (e : Ending) (w' : World) : Prop :=
  ∃ (sb : Nat) (rv : Option Addr) (rk : Nat) (rs : List Rl) (t : Nat) (tv : Option Addr) (tk : Nat) (vs : List Tr) (tb : List (List Int)),
    e = .returned (.agg #[.slice (some ⟨sb, 0, none⟩) 3 3, .slice rv (nRul n0) rk, .slice tv t tk, .int .i64 (1 + gb % 16 % 3), .int .i64 (1 + gb % 16 / 2 % 3), .int .i64 (1 + gb % 16 / 4 % 4), .int .i64 (mkDr tb t gd), .int .i64 (1 + gp % 30), .int .i64 (1 + go_ % 30), .bool gk, .int .i64 (1 + gl % 40)]) ∧
    Mkd w' W.heap.size n0 ls ss gb sb rv rk rs t tv tk vs tb ∧ Fr (fun _ => False) W w'
theorem TbR.low {w : World} {B B' N t : Nat} {tv : Option Addr} {tk : Nat} {vs : List Tr} {tb : List (List Int)} (h : TbR w B N t tv tk vs tb) (hb : B' ≤ B) : TbR w B' N t tv tk vs tb :=
  ⟨h.vl, h.tl, h.own.low hb, fun q hq => (h.row q hq).low hb, h.ok, h.apt, h.apr⟩
theorem MkRs.low {w : World} {B B' : Nat} {ls : List Ln} {ss : List (List Int)} {rv : Option Addr} {rk j : Nat} {rs : List Rl} (h : MkRs w B ls ss rv rk j rs) (hb : B' ≤ B) : MkRs w B' ls ss rv rk j rs :=
  ⟨h.len, h.own.low hb, h.of_, fun m hm => (h.st m hm).low hb, h.ap⟩
theorem MkRs.fr {S : Nat → Prop} {w w' : World} {B : Nat} {ls : List Ln} {ss : List (List Int)} {rv : Option Addr} {rk j : Nat} {rs : List Rl} (h : MkRs w B ls ss rv rk j rs) (hf : Fr S w w') (hs : ∀ k, k < w.heap.size → S k → k < B) : MkRs w' B ls ss rv rk j rs :=
  ⟨h.len, h.own.fr hf (fun k hk e => by have := h.own.blk k hk; have := hs k this.2 e; omega), h.of_, fun m hm => (h.st m hm).fr hf (fun k hk e => by have := (h.st m hm).blk k hk; have := hs k this.2 e; omega), h.ap⟩
/-! ### Make's code, piece by piece -/
def cL : Code → Code
  | .seq a _ => a
  | c => c
def cR : Code → Code
  | .seq _ b => b
  | c => c
def bodyC (f : Func) : Code := f.body.getD .skip
noncomputable def codeB : Code := cR (cR (cR (bodyC Try.f12)))
noncomputable def codeD : Code := cR (cR codeB)

end Go.Proofs.Ytahddolplklopaa
