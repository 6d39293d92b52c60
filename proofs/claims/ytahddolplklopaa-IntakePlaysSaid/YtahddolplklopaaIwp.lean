/- Iwp. -/
import Derived.Test.YtahddolplklopaaChecked
import Derived.WalkKit
import Derived.Laws.IdiomCopy
import Derived.Deep.QuietTactic
import Derived.BigQuiet
import Derived.Lib.Hide
import Derived.OpenShut
import Derived.StillTailTactics
import Derived.Deep.RegionWith
import Derived.Deep.RegionLaw
import Derived.Deep.Slices
import Derived.Deep.RegionHeld3
import Derived.OwnWalk
import Derived.Deep.DeepCutAuto
import Derived.Deep.CutRange
import Derived.Test.YtahddolplklopaaBase
import Derived.Test.YtahddolplklopaaCalm
import Derived.Test.YtahddolplklopaaCalmT
import Derived.Test.YtahddolplklopaaCel
import Derived.Test.YtahddolplklopaaApp
import Derived.Test.YtahddolplklopaaRE
import Derived.Test.YtahddolplklopaaREB
import Derived.Test.YtahddolplklopaaREC
import Derived.Test.YtahddolplklopaaREA
import Derived.Test.YtahddolplklopaaBq
import Derived.Test.YtahddolplklopaaBp
import Derived.Test.YtahddolplklopaaBx
import Derived.Test.YtahddolplklopaaBr
import Derived.Test.YtahddolplklopaaBk0
import Derived.Test.YtahddolplklopaaBt
import Derived.Test.YtahddolplklopaaBk
import Derived.Test.YtahddolplklopaaBu
import Derived.Test.YtahddolplklopaaBv
import Derived.Maps.AppendAt
import Derived.Test.YtahddolplklopaaMkD
import Derived.Test.YtahddolplklopaaMkE
import Derived.Test.YtahddolplklopaaClk
import Derived.Test.YtahddolplklopaaIk
import Derived.Test.YtahddolplklopaaMkM
import Derived.Test.YtahddolplklopaaIl
import Derived.BigRegion
import Derived.Deep.CutBlock
import Derived.Test.YtahddolplklopaaEqa
import Derived.Test.YtahddolplklopaaIlw
namespace Go.Proofs.Ytahddolplklopaa
open Go.RowKit
set_option linter.unusedVariables false
set_option linter.unusedSimpArgs false

/-! ### What is told last is what is so -/
structure Tl (c : Cf) (rs : List Rl) (M : Md) (last : List Bool) : Prop where
  ll : last.length = c.N
  it : ∀ y, y ∈ M.ms → ∃ k : Nat, k < c.N ∧ y.2.1 = (k : Int) ∧ y.1 = (rs.getD k ERl.z).p ∧ y.2.2.1 = M.told.getD k false
  la : ∀ k : Nat, k < c.N → (∃ y, y ∈ M.ms ∧ y.2.1 = (k : Int)) ∨ last.getD k false = M.told.getD k false
theorem hasR_iff (p r : Int) : ∀ ms : List It, hasR p r ms = true ↔ ∃ y, y ∈ ms ∧ y.1 = p ∧ y.2.1 = r := by
  intro ms
  unfold hasR
  simp [List.any_eq_true]
theorem putR_cases (room : Nat) (ms : List It) (p : Int) (x : Ev) : (hasR p x.1 ms = true ∧ putR room ms p x = (0, ms.map (rep p x))) ∨ (hasR p x.1 ms = false ∧ room ≤ (bnd p ms).length ∧ putR room ms p x = (6, ms)) ∨ (hasR p x.1 ms = false ∧ ¬ room ≤ (bnd p ms).length ∧ putR room ms p x = (0, ms ++ [(p, x)])) := by
  unfold putR
  cases h : hasR p x.1 ms
  · by_cases hr : room ≤ (bnd p ms).length
    · exact .inr (.inl ⟨rfl, hr, by simp [hr]⟩)
    · exact .inr (.inr ⟨rfl, hr, by simp [hr]⟩)
  · exact .inl ⟨rfl, by simp⟩
theorem Tl.offer {c : Cf} {rs : List Rl} {M M' : Md} {last : List Bool} {now : Int} {k : Nat} {on b : Bool} (h : Tl c rs M last) (htl : M.told.length = c.N) (hk : k < c.N) (ho : ofr c rs M now (k : Int) on = (b, M')) :
    Tl c rs M' last ∧ (b = true → M'.told.getD k false = on ∧ ∀ m : Nat, m ≠ k → M'.told.getD m false = M.told.getD m false) ∧ (b = false → M'.told = M.told) := by
  unfold ofr at ho
  by_cases h1 : (k : Int) < 0 ∨ (c.N : Int) ≤ (k : Int) ∨ M.told.getD (k : Int).toNat false = on
  · rw [if_pos h1] at ho
    obtain ⟨rfl, rfl⟩ := Prod.mk.inj ho
    refine ⟨h, fun _ => ⟨?_, fun _ _ => rfl⟩, fun e => by simp at e⟩
    rcases h1 with h1 | h1 | h1
    · omega
    · omega
    · rwa [Int.toNat_natCast] at h1
  · rw [if_neg h1, Int.toNat_natCast] at ho
    obtain ⟨p, hp⟩ : ∃ p, (rs.getD k ERl.z).p = p := ⟨_, rfl⟩
    rw [hp] at ho
    obtain ⟨rm, hrm⟩ : ∃ r, RE.room (tri c.b0 c.b1 c.b2 (p - 1).toNat) = r := ⟨_, rfl⟩
    rw [hrm] at ho
    have hts : ∀ m : Nat, m ≠ k → (M.told.set k on).getD m false = M.told.getD m false := fun m hm => getD_set_ne _ _ _ _ _ (fun e => hm e.symm)
    have htk : (M.told.set k on).getD k false = on := getD_set_same _ _ _ _ (by omega)
    rcases putR_cases rm M.ms p ((k : Int), on, now) with ⟨hh, e0⟩ | ⟨hh, hr, e0⟩ | ⟨hh, hr, e0⟩
    · rw [e0] at ho
      simp only [if_true] at ho
      obtain ⟨rfl, rfl⟩ := Prod.mk.inj ho
      refine ⟨⟨h.ll, fun y hy => ?_, fun m hm => ?_⟩, fun _ => ⟨htk, hts⟩, fun e => by simp at e⟩
      · obtain ⟨z, hz, rfl⟩ := List.mem_map.1 hy
        unfold rep
        by_cases e : z.1 = p ∧ z.2.1 = (k : Int)
        · rw [if_pos e]; exact ⟨k, hk, rfl, hp.symm, htk.symm⟩
        · rw [if_neg e]
          obtain ⟨m, hm, e1, e2, e3⟩ := h.it z hz
          by_cases hmk : m = k
          · subst hmk; exact absurd ⟨by rw [e2, hp], e1⟩ e
          · exact ⟨m, hm, e1, e2, by rw [e3]; exact (hts m hmk).symm⟩
      · by_cases hmk : m = k
        · subst hmk
          obtain ⟨z, hz, e1, e2⟩ := (hasR_iff p (m : Int) M.ms).1 hh
          exact .inl ⟨rep p ((m : Int), on, now) z, List.mem_map.2 ⟨z, hz, rfl⟩, by unfold rep; rw [if_pos ⟨e1, e2⟩]⟩
        · rcases h.la m hm with ⟨z, hz, e1⟩ | e1
          · exact .inl ⟨rep p ((k : Int), on, now) z, List.mem_map.2 ⟨z, hz, rfl⟩, by unfold rep; rw [if_neg (fun e => hmk (by have := e.2; simp only at this; omega))]; exact e1⟩
          · exact .inr (by rw [e1]; exact (hts m hmk).symm)
    · rw [e0, if_neg (show ¬ ((6 : Int), M.ms).1 = 0 from by show ¬ (6 : Int) = 0; decide)] at ho
      obtain ⟨rfl, rfl⟩ := Prod.mk.inj ho
      exact ⟨⟨h.ll, h.it, h.la⟩, fun e => by simp at e, fun _ => rfl⟩
    · have hh : ¬ hasR p (k : Int) M.ms = true := by simpa using hh
      · rw [e0] at ho
        simp only [if_true] at ho
        obtain ⟨rfl, rfl⟩ := Prod.mk.inj ho
        refine ⟨⟨h.ll, fun y hy => ?_, fun m hm => ?_⟩, fun _ => ⟨htk, hts⟩, fun e => by simp at e⟩
        · rcases List.mem_append.1 hy with hy1 | hy1
          · obtain ⟨m, hm, e1, e2, e3⟩ := h.it y hy1
            by_cases hmk : m = k
            · subst hmk; exact absurd ((hasR_iff p (m : Int) M.ms).2 ⟨y, hy1, by rw [e2, hp], e1⟩) hh
            · exact ⟨m, hm, e1, e2, by rw [e3]; exact (hts m hmk).symm⟩
          · rw [List.mem_singleton.1 hy1]; exact ⟨k, hk, rfl, hp.symm, htk.symm⟩
        · by_cases hmk : m = k
          · subst hmk; exact .inl ⟨_, List.mem_append.2 (.inr List.mem_cons_self), rfl⟩
          · rcases h.la m hm with ⟨z, hz, e1⟩ | e1
            · exact .inl ⟨z, List.mem_append.2 (.inl hz), e1⟩
            · exact .inr (by rw [e1]; exact (hts m hmk).symm)
theorem mem_rm {ms : List It} {b : Nat} (hb : b < ms.length) {y : It} (hy : y ∈ ms) : y = ms.getD b EIt.z ∨ y ∈ ms.take b ++ ms.drop (b + 1) := by
  obtain ⟨i, hi, rfl⟩ := List.mem_iff_getElem.1 hy
  rcases Nat.lt_trichotomy i b with h | h | h
  · exact .inr (List.mem_append.2 (.inl (List.mem_iff_getElem.2 ⟨i, by simp; omega, by simp⟩)))
  · subst h; exact .inl (by rw [List.getD_eq_getElem?_getD, List.getElem?_eq_getElem hi]; rfl)
  · exact .inr (List.mem_append.2 (.inr (List.mem_iff_getElem.2 ⟨i - (b + 1), by simp; omega, by simp; congr 1; omega⟩)))
theorem Tl.take {c : Cf} {rs : List Rl} {M : Md} {last : List Bool} {ms' : List It} {p x1 x3 : Int} {x2 : Bool} (h : Tl c rs M last) (ht : tkOut M.ms ms' p x1 x2 x3 true) :
    ∃ k : Nat, k < c.N ∧ x1 = (k : Int) ∧ Tl c rs ⟨ms', M.told, M.last, M.ref⟩ (last.set k x2) := by
  rcases ht with ⟨_, _, _, _, _, _, h7⟩ | ⟨_, b, hB, hx, hms⟩
  · simp at h7
  · have hmem : (p, x1, x2, x3) ∈ M.ms := by rw [← hx, List.getD_eq_getElem?_getD, List.getElem?_eq_getElem hB.1]; exact List.getElem_mem _
    obtain ⟨k, hk, e1, e2, e3⟩ := h.it _ hmem
    refine ⟨k, hk, e1, ⟨by rw [List.length_set]; exact h.ll, fun y hy => h.it y ?_, fun m hm => ?_⟩⟩
    · subst hms
      rcases List.mem_append.1 hy with h1 | h1
      · exact List.mem_of_mem_take h1
      · exact List.mem_of_mem_drop h1
    · by_cases hmk : m = k
      · subst hmk
        exact .inr (by rw [getD_set_same _ _ _ _ (by rw [h.ll]; exact hm)]; exact e3)
      · rcases h.la m hm with ⟨z, hz, e4⟩ | e4
        · rcases mem_rm hB.1 hz with h1 | h1
          · rw [hx] at h1
            rw [h1] at e4
            simp only at e4 e1
            omega
          · exact .inl ⟨z, by rw [hms]; exact h1, e4⟩
        · exact .inr (by rw [getD_set_ne _ _ _ _ _ (fun e => hmk e.symm)]; exact e4)
theorem tkOut_len {ms ms' : List It} {p x1 x3 : Int} {x2 : Bool} (ht : tkOut ms ms' p x1 x2 x3 true) : ms.length = ms'.length + 1 := by
  rcases ht with ⟨_, _, _, _, _, _, h7⟩ | ⟨_, b, hB, hx, hms⟩
  · simp at h7
  · have := hB.1
    rw [hms, List.length_append, List.length_take, List.length_drop]; omega
theorem Drn_len : ∀ {out : List Ev} {ms ms' : List It}, Drn out ms ms' → ms.length = ms'.length + out.length
  | [], ms, ms', h => by cases h; rfl
  | x :: out, ms, ms', ⟨m, p, h1, h2⟩ => by
    have := Drn_len h2
    have := tkOut_len h1
    rw [List.length_cons]; omega
theorem Drn_drop : ∀ {out : List Ev} {ms ms' : List It} (j : Nat), Drn (out.drop j) ms ms' → j < out.length → ∃ ms1 p, tkOut ms ms1 p (out.getD j RE.E.z).1 (out.getD j RE.E.z).2.1 (out.getD j RE.E.z).2.2 true ∧ Drn (out.drop (j + 1)) ms1 ms' := by
  intro out ms ms' j h hj
  rw [List.drop_eq_getElem_cons hj] at h
  rw [show out.getD j RE.E.z = out[j] from by rw [List.getD_eq_getElem?_getD, List.getElem?_eq_getElem hj]; rfl]
  exact h
theorem Lw.len10 {W w : World} {cb : Nat} {c : Cf} {ib q tb : Nat} {qs : Nat → Nat × Nat} {rs : List Rl} {M : Md} (h : Lw W cb c ib q qs tb rs M w) (hb : c.b0 ≤ 3 ∧ c.b1 ≤ 3 ∧ c.b2 ≤ 4) : M.ms.length ≤ 10 := by
  have h1 := h.room
  have h2 := tot_bnd M.ms h.ik.gq.1
  unfold tot at h2
  have h3 : (bnd 1 M.ms).length + (bnd 2 M.ms).length + (bnd 3 M.ms).length = M.ms.length := h2
  unfold RE.room at h1
  omega

theorem ofr_told {c : Cf} {rs : List Rl} {M M' : Md} {now : Int} {m : Nat} {on b : Bool} (htl : M.told.length = c.N) (hm : m < c.N) (ho : ofr c rs M now (m : Int) on = (b, M')) : M'.told = if b = true then M.told.set m on else M.told := by
  unfold ofr at ho
  split at ho
  · rename_i h1
    obtain ⟨rfl, rfl⟩ := Prod.mk.inj ho
    rw [if_pos rfl]
    rcases h1 with h1 | h1 | h1
    · omega
    · omega
    · rw [Int.toNat_natCast] at h1
      apply List.ext_getElem?
      intro i
      rw [List.getElem?_set]
      by_cases e : m = i
      · subst e
        rw [if_pos rfl, if_pos (by omega), List.getElem?_eq_getElem (by omega)]
        rw [List.getD_eq_getElem?_getD, List.getElem?_eq_getElem (by omega)] at h1
        exact congrArg some h1
      · rw [if_neg e]
  · split at ho
    · obtain ⟨rfl, rfl⟩ := Prod.mk.inj ho
      rw [if_pos rfl, Int.toNat_natCast]
    · obtain ⟨rfl, rfl⟩ := Prod.mk.inj ho
      rw [if_neg (by simp)]
structure TdC (W : World) (cb : Nat) (ib q : Nat) (qs : Nat → Nat × Nat) (tb td lt : Nat) : Prop where
  t : ¬ inI ib q qs tb td
  l : ¬ inI ib q qs tb lt
  tl : td ≠ lt
  ct : cb ≠ td
  cl : cb ≠ lt
  tW : W.heap.size ≤ td
  lW : W.heap.size ≤ lt
structure TlS (W : World) (cb : Nat) (c : Cf) (ib q : Nat) (qs : Nat → Nat × Nat) (tb : Nat) (rs : List Rl) (td lt : Nat) (M : Md) (last : List Bool) (w : World) : Prop where
  lw : Lw W cb c ib q qs tb rs M w
  tt : w.heap[td]? = some (.cells (EB.flat M.told) 4 (0, 0))
  ll : w.heap[lt]? = some (.cells (EB.flat last) 4 (0, 0))
  inv : Tl c rs M last
theorem TlS.calm {W w w' : World} {cb : Nat} {c : Cf} {ib q tb : Nat} {qs : Nat → Nat × Nat} {rs : List Rl} {td lt : Nat} {M : Md} {last : List Bool} (h : TlS W cb c ib q qs tb rs td lt M last w) (hf : Fr (fun _ => False) w w') : TlS W cb c ib q qs tb rs td lt M last w' :=
  ⟨h.lw.calm hf, hf.at_ h.tt (fun x => x), hf.at_ h.ll (fun x => x), h.inv⟩
theorem Tl.start (c : Cf) (rs : List Rl) : Tl c rs ⟨[], List.replicate c.N false, 0, 0⟩ (List.replicate c.N false) := ⟨by simp, fun y hy => (by cases hy), fun k hk => .inr rfl⟩
attribute [local go_sem] eq_arr3

/-! ### Who waits, waits less than the bound: in plain words -/
def win (sl : Nat → Nat) (a : Nat) : Nat → Nat
  | 0 => 0
  | q + 1 => win sl a q + sl (a + q)
theorem win_add (sl : Nat → Nat) (a p : Nat) : ∀ q, win sl a (p + q) = win sl a p + win sl (a + p) q
  | 0 => rfl
  | q + 1 => by
    show win sl a (p + q) + sl (a + (p + q)) = win sl a p + (win sl (a + p) q + sl (a + p + q))
    rw [win_add sl a p q, Nat.add_assoc a p q]; omega
theorem win_next {sl : Nat → Nat} {T : Nat} (hp : ∀ t, sl (t + T) = sl t) (a : Nat) : win sl (a + 1) T = win sl a T := by
  have h1 := win_add sl a 1 T
  have h2 := win_add sl a T 1
  rw [show 1 + T = T + 1 from by omega] at h1
  rw [h1] at h2
  have e1 : win sl a 1 = sl a := by show 0 + sl (a + 0) = _; simp
  have e2 : win sl (a + T) 1 = sl a := by show 0 + sl (a + T + 0) = _; rw [Nat.add_zero, hp]; simp
  omega
theorem win_any {sl : Nat → Nat} {T : Nat} (hp : ∀ t, sl (t + T) = sl t) : ∀ a, win sl a T = win sl 0 T
  | 0 => rfl
  | a + 1 => by rw [win_next hp a, win_any hp a]
theorem win_mul {sl : Nat → Nat} {T : Nat} (hp : ∀ t, sl (t + T) = sl t) (a : Nat) : ∀ m, win sl a (T * m) = win sl 0 T * m
  | 0 => rfl
  | m + 1 => by rw [Nat.mul_succ, win_add, win_mul hp a m, win_any hp (a + T * m), Nat.mul_succ]
/-- What waited at the end of each tick: so many, and from tick to tick. -/
structure Hist (N dr : Nat) (sl bs : Nat → Nat) (n : Nat) : Prop where
  le : ∀ t, t ≤ n → bs t ≤ N
  st : ∀ t, t < n → bs (t + 1) = 0 ∨ bs (t + 1) + dr ≤ bs t + sl t
theorem Hist.late {N T dr : Nat} {sl bs : Nat → Nat} {n s : Nat} (h : Hist N dr sl bs n) (hp : ∀ t, sl (t + T) = sl t) (hE : win sl 0 T < T * dr) (h1 : 1 ≤ s) (hpos : ∀ t, s ≤ t → t ≤ n → 0 < bs t) : n + 1 < s + (N + 1) * T := by
  refine Decidable.byContradiction fun hc => ?_
  have key : ∀ q, s + q ≤ n + 1 → bs (s - 1 + q) + q * dr ≤ bs (s - 1) + win sl (s - 1) q := by
    intro q
    induction q with
    | zero => intro _; simp [win]
    | succ q ih =>
      intro hq
      have ih := ih (by omega)
      have h2 := h.st (s - 1 + q) (by omega)
      have h3 := hpos (s - 1 + q + 1) (by omega) (by omega)
      rcases h2 with h2 | h2
      · omega
      · show bs (s - 1 + (q + 1)) + (q + 1) * dr ≤ bs (s - 1) + (win sl (s - 1) q + sl (s - 1 + q))
        rw [Nat.succ_mul, show s - 1 + (q + 1) = s - 1 + q + 1 from by omega]; omega
  have h4 := key ((N + 1) * T) (by omega)
  rw [show (N + 1) * T = T * (N + 1) from Nat.mul_comm _ _, win_mul hp] at h4
  have h5 := h.le (s - 1) (by omega)
  have h6 : (win sl 0 T + 1) * (N + 1) ≤ T * dr * (N + 1) := Nat.mul_le_mul_right _ hE
  rw [Nat.succ_mul, show T * dr * (N + 1) = T * (N + 1) * dr from by rw [Nat.mul_assoc, Nat.mul_comm dr, ← Nat.mul_assoc]] at h6
  omega
theorem Hist.next {N dr : Nat} {sl bs : Nat → Nat} {n b : Nat} (h : Hist N dr sl bs n) (hb : b ≤ N) (hs : b = 0 ∨ b + dr ≤ bs n + sl n) : Hist N dr sl (fun t => if t = n + 1 then b else bs t) (n + 1) := by
  refine ⟨fun t ht => ?_, fun t ht => ?_⟩
  · by_cases e : t = n + 1
    · simp only [e, ↓reduceIte]; exact hb
    · simp only [e, ↓reduceIte]; exact h.le t (by omega)
  · by_cases e : t = n
    · subst e
      have e2 : ¬ t = t + 1 := by omega
      simp only [↓reduceIte, e2]; exact hs
    · have e1 : ¬ t + 1 = n + 1 := by omega
      have e2 : ¬ t = n + 1 := by omega
      simp only [e1, e2, ↓reduceIte]; exact h.st t (by omega)
def rls (ms : List It) : List Int := ms.map (fun y => y.2.1)
/-- Whose event waits (ms), or is being told (L), and since when. -/
structure Wi (c : Cf) (rs : List Rl) (ms : List It) (since : List Int) (L : List Int) : Prop where
  sl : since.length = c.N
  it : ∀ y, y ∈ ms → ∃ k : Nat, k < c.N ∧ y.2.1 = (k : Int) ∧ y.1 = (rs.getD k ERl.z).p
  nd : (L ++ rls ms).Nodup
  la : ∀ k : Nat, k < c.N → (since.getD k 0 ≠ 0 ↔ (k : Int) ∈ L ++ rls ms)
  rg : ∀ r, r ∈ L → ∃ k : Nat, k < c.N ∧ r = (k : Int)
theorem Wi.len {c : Cf} {rs : List Rl} {ms : List It} {since : List Int} (h : Wi c rs ms since []) : ms.length ≤ c.N := by
  have := pig c.N (rls ms) ⟨by simpa using h.nd, fun y hy => by
    obtain ⟨z, hz, rfl⟩ := List.mem_map.1 hy
    obtain ⟨k, hk, e, _⟩ := h.it z hz
    simp only [e]; omega⟩
  simpa [rls] using this
theorem Wi.offer {c : Cf} {rs : List Rl} {M M' : Md} {since : List Int} {now : Int} {k : Nat} {on b : Bool} (h : Wi c rs M.ms since []) (hk : k < c.N) (hn : 1 ≤ now) (ho : ofr c rs M now (k : Int) on = (b, M')) :
    (b = true → M.told.getD k false ≠ on → Wi c rs M'.ms (if since.getD k 0 = 0 then since.set k now else since) []) ∧ (b = false ∨ M.told.getD k false = on → M'.ms = M.ms) ∧ M'.ms.length ≤ M.ms.length + 1 := by
  unfold ofr at ho
  by_cases h1 : (k : Int) < 0 ∨ (c.N : Int) ≤ (k : Int) ∨ M.told.getD (k : Int).toNat false = on
  · rw [if_pos h1] at ho
    obtain ⟨rfl, rfl⟩ := Prod.mk.inj ho
    rw [Int.toNat_natCast] at h1
    refine ⟨fun _ hne => ?_, fun _ => rfl, by omega⟩
    rcases h1 with h1 | h1 | h1
    · omega
    · omega
    · exact absurd h1 hne
  · rw [if_neg h1, Int.toNat_natCast] at ho
    rw [Int.toNat_natCast] at h1
    have hne : ¬ M.told.getD k false = on := fun e => h1 (.inr (.inr e))
    obtain ⟨p, hp⟩ : ∃ p, (rs.getD k ERl.z).p = p := ⟨_, rfl⟩
    rw [hp] at ho
    obtain ⟨rm, hrm⟩ : ∃ r, RE.room (tri c.b0 c.b1 c.b2 (p - 1).toNat) = r := ⟨_, rfl⟩
    rw [hrm] at ho
    rcases putR_cases rm M.ms p ((k : Int), on, now) with ⟨hh, e0⟩ | ⟨hh, hr, e0⟩ | ⟨hh, hr, e0⟩
    · rw [e0] at ho
      simp only [if_true] at ho
      obtain ⟨rfl, rfl⟩ := Prod.mk.inj ho
      have hrl : rls (M.ms.map (rep p ((k : Int), on, now))) = rls M.ms := by
        unfold rls
        rw [List.map_map]
        refine List.map_congr_left fun y _ => ?_
        show (rep p ((k : Int), on, now) y).2.1 = y.2.1
        unfold rep
        split
        · rename_i e; exact e.2.symm
        · rfl
      refine ⟨fun _ _ => ?_, fun e => ?_, by simp⟩
      · obtain ⟨z, hz, e1, e2⟩ := (hasR_iff p (k : Int) M.ms).1 hh
        have hs : ¬ since.getD k 0 = 0 := (h.la k hk).2 (by simp only [List.nil_append]; exact List.mem_map.2 ⟨z, hz, e2⟩)
        rw [if_neg hs]
        refine ⟨h.sl, fun y hy => ?_, by show ([] ++ rls _).Nodup; rw [hrl]; exact h.nd, fun m hm => by show _ ↔ _ ∈ [] ++ rls _; rw [hrl]; exact h.la m hm, h.rg⟩
        obtain ⟨z, hz, rfl⟩ := List.mem_map.1 hy
        unfold rep
        by_cases e : z.1 = p ∧ z.2.1 = (k : Int)
        · rw [if_pos e]; exact ⟨k, hk, rfl, hp.symm⟩
        · rw [if_neg e]; exact h.it z hz
      · rcases e with e | e
        · simp at e
        · exact absurd e hne
    · rw [e0, if_neg (show ¬ ((6 : Int), M.ms).1 = 0 from by show ¬ (6 : Int) = 0; decide)] at ho
      obtain ⟨rfl, rfl⟩ := Prod.mk.inj ho
      exact ⟨fun e => by simp at e, fun _ => rfl, by simp⟩
    · have hh : ¬ hasR p (k : Int) M.ms = true := by simpa using hh
      rw [e0] at ho
      simp only [if_true] at ho
      obtain ⟨rfl, rfl⟩ := Prod.mk.inj ho
      have hnot : (k : Int) ∉ rls M.ms := fun hm => by
        obtain ⟨y, hy, e1⟩ := List.mem_map.1 hm
        obtain ⟨m, hm2, e2, e3⟩ := h.it y hy
        have : m = k := by have := e2.symm.trans e1; omega
        subst this
        exact hh ((hasR_iff p (m : Int) M.ms).2 ⟨y, hy, by rw [e3, hp], e1⟩)
      have hs : since.getD k 0 = 0 := Decidable.byContradiction fun hc => hnot (by simpa using (h.la k hk).1 hc)
      have hrl : rls (M.ms ++ [(p, (k : Int), on, now)]) = rls M.ms ++ [(k : Int)] := by unfold rls; rw [List.map_append]; rfl
      refine ⟨fun _ _ => ?_, fun e => ?_, by simp⟩
      · rw [if_pos hs]
        refine ⟨by rw [List.length_set]; exact h.sl, fun y hy => ?_, ?_, fun m hm => ?_, h.rg⟩
        · rcases List.mem_append.1 hy with hy1 | hy1
          · exact h.it y hy1
          · rw [List.mem_singleton.1 hy1]; exact ⟨k, hk, rfl, hp.symm⟩
        · show ([] ++ rls _).Nodup
          rw [hrl, List.nil_append]
          refine List.nodup_append.2 ⟨by simpa using h.nd, List.nodup_cons.2 ⟨by simp, List.nodup_nil⟩, fun a ha b hb => ?_⟩
          rw [List.mem_singleton.1 hb]
          exact fun e => hnot (e ▸ ha)
        · show _ ↔ _ ∈ [] ++ rls _
          rw [hrl, List.nil_append]
          by_cases e : m = k
          · subst e
            rw [getD_set_same _ _ _ _ (by rw [h.sl]; exact hm)]
            exact ⟨fun _ => List.mem_append.2 (.inr (List.mem_singleton.2 rfl)), fun _ => by omega⟩
          · rw [getD_set_ne _ _ _ _ _ (fun h => e h.symm), h.la m hm, List.nil_append]
            exact ⟨fun h => List.mem_append.2 (.inl h), fun h => by
              rcases List.mem_append.1 h with h | h
              · exact h
              · have := List.mem_singleton.1 h; omega⟩
      · rcases e with e | e
        · simp at e
        · exact absurd e hne
theorem tk_perm {ms ms' : List It} {p x1 x3 : Int} {x2 : Bool} (ht : tkOut ms ms' p x1 x2 x3 true) : (rls ms).Perm (x1 :: rls ms') ∧ (∀ y, y ∈ ms' → y ∈ ms) ∧ ∃ y, y ∈ ms ∧ y.2.1 = x1 := by
  rcases ht with ⟨_, _, _, _, _, _, h7⟩ | ⟨_, b, hB, hx, hms⟩
  · simp at h7
  · subst hms
    have hb := hB.1
    have e : ms = ms.take b ++ ms.getD b EIt.z :: ms.drop (b + 1) := by
      conv => lhs; rw [← List.take_append_drop b ms]
      rw [List.drop_eq_getElem_cons hb]
      congr 2
      rw [List.getD_eq_getElem?_getD, List.getElem?_eq_getElem hb]; rfl
    refine ⟨?_, fun y hy => ?_, ⟨(p, x1, x2, x3), by rw [← hx, List.getD_eq_getElem?_getD, List.getElem?_eq_getElem hb]; exact List.getElem_mem _, rfl⟩⟩
    · have e2 : rls ms = rls (ms.take b) ++ x1 :: rls (ms.drop (b + 1)) := by
        conv => lhs; rw [e]
        unfold rls
        rw [List.map_append, List.map_cons, hx]
      have e3 : rls (ms.take b ++ ms.drop (b + 1)) = rls (ms.take b) ++ rls (ms.drop (b + 1)) := by unfold rls; rw [List.map_append]
      rw [e2, e3]
      exact List.perm_middle
    · rcases List.mem_append.1 hy with h | h
      · exact List.mem_of_mem_take h
      · exact List.mem_of_mem_drop h
theorem Drn_perm : ∀ {out : List Ev} {ms ms' : List It}, Drn out ms ms' → (rls ms).Perm (out.map (fun x => x.1) ++ rls ms') ∧ ∀ y, y ∈ ms' → y ∈ ms
  | [], ms, ms', h => by cases h; exact ⟨List.Perm.refl _, fun y hy => hy⟩
  | x :: out, ms, ms', ⟨m, p, h1, h2⟩ => by
    obtain ⟨a1, a2, _⟩ := tk_perm h1
    obtain ⟨b1, b2⟩ := Drn_perm h2
    exact ⟨a1.trans (b1.cons _), fun y hy => a2 y (b2 y hy)⟩
theorem Wi.drain {c : Cf} {rs : List Rl} {ms ms' : List It} {since : List Int} {out : List Ev} (h : Wi c rs ms since []) (hd : Drn out ms ms') : Wi c rs ms' since (out.map (fun x => x.1)) := by
  obtain ⟨h1, h2⟩ := Drn_perm hd
  refine ⟨h.sl, fun y hy => h.it y (h2 y hy), h1.nodup_iff.1 (by simpa using h.nd), fun k hk => ?_, fun r hr => ?_⟩
  · rw [h.la k hk, List.nil_append]; exact h1.mem_iff
  · have := h1.mem_iff.2 (List.mem_append.2 (.inl hr))
    obtain ⟨z, hz, e⟩ := List.mem_map.1 this
    obtain ⟨k, hk, e2, _⟩ := h.it z hz
    exact ⟨k, hk, by rw [← e]; exact e2⟩
theorem Wi.pop {c : Cf} {rs : List Rl} {ms : List It} {since : List Int} {x : Int} {L : List Int} (h : Wi c rs ms since (x :: L)) : ∃ k : Nat, k < c.N ∧ x = (k : Int) ∧ since.getD k 0 ≠ 0 ∧ Wi c rs ms (since.set k 0) L := by
  obtain ⟨k, hk, rfl⟩ := h.rg x List.mem_cons_self
  have hnd : ((k : Int) :: (L ++ rls ms)).Nodup := h.nd
  obtain ⟨n1, n2⟩ := List.nodup_cons.1 hnd
  refine ⟨k, hk, rfl, (h.la k hk).2 (List.mem_append.2 (.inl List.mem_cons_self)), ⟨by rw [List.length_set]; exact h.sl, h.it, n2, fun m hm => ?_, fun r hr => h.rg r (List.mem_cons_of_mem _ hr)⟩⟩
  by_cases e : m = k
  · subst e
    rw [getD_set_same _ _ _ _ (by rw [h.sl]; exact hm)]
    exact ⟨fun h => absurd rfl h, fun h => absurd h n1⟩
  · rw [getD_set_ne _ _ _ _ _ (fun h => e h.symm), h.la m hm]
    show _ ∈ (k : Int) :: (L ++ rls ms) ↔ _
    exact ⟨fun h => by
      rcases List.mem_cons.1 h with h | h
      · omega
      · exact h, fun h => List.mem_cons_of_mem _ h⟩
/-- Since when each waits: behind the first tick, within the script, and never was all told since then. -/
def Sg (bs : Nat → Nat) (m n len : Nat) (since : List Int) : Prop :=
  ∀ k : Nat, since.getD k 0 ≠ 0 → ∃ s : Nat, since.getD k 0 = (s : Int) ∧ 1 ≤ s ∧ s ≤ n ∧ s ≤ len ∧ ∀ t, s ≤ t → t ≤ m → 0 < bs t
theorem Sg.put {bs : Nat → Nat} {m n len : Nat} {since : List Int} (h : Sg bs m n len since) {k now : Nat} (h1 : 1 ≤ now) (h2 : now ≤ n) (h3 : now ≤ len) (h4 : m < now) : Sg bs m n len (if since.getD k 0 = 0 then since.set k (now : Int) else since) := by
  split
  · intro j hj
    by_cases e : j = k
    · subst e
      by_cases hl : j < since.length
      · rw [getD_set_same _ _ _ _ hl]; exact ⟨now, rfl, h1, h2, h3, fun t ht1 ht2 => by omega⟩
      · exact absurd (by rw [List.getD_eq_getElem?_getD, List.getElem?_eq_none (by rw [List.length_set]; omega)]; rfl) hj
    · rw [getD_set_ne _ _ _ _ _ (fun h => e h.symm)] at hj ⊢; exact h j hj
  · exact h
theorem Sg.clear {bs : Nat → Nat} {m n len : Nat} {since : List Int} (h : Sg bs m n len since) (k : Nat) : Sg bs m n len (since.set k 0) := by
  intro j hj
  by_cases e : j = k
  · subst e
    by_cases hl : j < since.length
    · rw [getD_set_same _ _ _ _ hl] at hj; exact absurd rfl hj
    · exact absurd (by rw [List.getD_eq_getElem?_getD, List.getElem?_eq_none (by rw [List.length_set]; omega)]; rfl) hj
  · rw [getD_set_ne _ _ _ _ _ (fun h => e h.symm)] at hj ⊢; exact h j hj
theorem Sg.next {bs : Nat → Nat} {n len b : Nat} {since : List Int} (h : Sg bs n (n + 1) len since) (hb : (∃ k : Nat, since.getD k 0 ≠ 0) → 0 < b) : Sg (fun t => if t = n + 1 then b else bs t) (n + 1) (n + 1) len since := by
  intro k hk
  obtain ⟨s, e, h1, h2, h3, h4⟩ := h k hk
  refine ⟨s, e, h1, h2, h3, fun t ht1 ht2 => ?_⟩
  by_cases e2 : t = n + 1
  · simp only [e2, ↓reduceIte]; exact hb ⟨k, hk⟩
  · simp only [e2, ↓reduceIte]; exact h4 t ht1 (by omega)
theorem Sg.more {bs : Nat → Nat} {m n n' len : Nat} {since : List Int} (h : Sg bs m n len since) (hn : n ≤ n') : Sg bs m n' len since := fun k hk => by
  obtain ⟨s, e, h1, h2, h3, h4⟩ := h k hk
  exact ⟨s, e, h1, by omega, h3, h4⟩
/-- The table's slots, tick by tick. -/
def slen (tb : List (List Int)) (T t : Nat) : Nat := (tb.getD (t % T) []).length
theorem slen_per (tb : List (List Int)) (T t : Nat) : slen tb T (t + T) = slen tb T t := by unfold slen; rw [Nat.add_mod_right]
theorem slen_win {tb : List (List Int)} {T : Nat} (h : tb.length = T) : ∀ q, q ≤ T → win (slen tb T) 0 q = entries (tb.take q)
  | 0, _ => by simp [win, entries]
  | q + 1, hq => by
    show win (slen tb T) 0 q + slen tb T (0 + q) = _
    rw [slen_win h q (by omega), entries_take tb (by omega), Nat.zero_add]
    unfold slen
    rw [Nat.mod_eq_of_lt (by omega)]
theorem drain_enough {tb : List (List Int)} {T : Nat} (h : tb.length = T) (hT : 1 ≤ T) {dr : Nat} (hd : entries tb / T + 1 ≤ dr) : win (slen tb T) 0 T < T * dr := by
  rw [slen_win h T (Nat.le_refl _), List.take_of_length_le (by omega)]
  have h1 := Nat.lt_mul_div_succ (entries tb) (b := T) (by omega)
  exact Nat.lt_of_lt_of_le h1 (Nat.mul_le_mul_left _ hd)

end Go.Proofs.Ytahddolplklopaa
