/-
  PLAIN LAWS of the reference's rounds: merit by merit.
-/
import Derived.Test.YtppgppnkhpjlpaaMref
namespace Go.Proofs.Ytppgppnkhpjlpaa
open Go.Vm Go.Vg
def dS (ls : List (Int × Int)) (dn : List Bool) : Int := sumA ls ((idx ls.length).filter fun i => dn.getD i.toNat default)
/-- the least merit among the first k that are not done -/
def Lst (ls : List (Int × Int)) (dn : List Bool) (k : Nat) (b : Int) : Prop := (b = -1 ∧ ∀ j, j < k → dn.getD j default = true) ∨ ∃ c : Nat, b = (c : Int) ∧ c < k ∧ dn.getD c default = false ∧ ∀ j, j < k → dn.getD j default = false → me ls c ≤ me ls j
theorem Lst.zero (ls : List (Int × Int)) (dn : List Bool) : Lst ls dn 0 (-1) := .inl ⟨rfl, fun _ h => absurd h (Nat.not_lt_zero _)⟩
theorem Lst.skip {ls : List (Int × Int)} {dn : List Bool} {k : Nat} {b : Int} (h : Lst ls dn k b) (hk : dn.getD k default = true) : Lst ls dn (k + 1) b := by
  rcases h with ⟨h1, h2⟩ | ⟨c, h1, h2, h3, h4⟩
  · exact .inl ⟨h1, fun j hj => by rcases Nat.lt_or_eq_of_le (Nat.le_of_lt_succ hj) with h | rfl; exact h2 j h; exact hk⟩
  · exact .inr ⟨c, h1, by omega, h3, fun j hj hn => by
      rcases Nat.lt_or_eq_of_le (Nat.le_of_lt_succ hj) with h | rfl
      · exact h4 j h hn
      · rw [hk] at hn; cases hn⟩
theorem Lst.keep {ls : List (Int × Int)} {dn : List Bool} {k c : Nat} (h : Lst ls dn k (c : Int)) (hp : ¬ me ls k < me ls c) : Lst ls dn (k + 1) (c : Int) := by
  rcases h with ⟨h1, h2⟩ | ⟨c', h1, h2, h3, h4⟩
  · omega
  · have e : c = c' := by omega
    subst e
    refine .inr ⟨c, rfl, by omega, h3, fun j hj hn => ?_⟩
    rcases Nat.lt_or_eq_of_le (Nat.le_of_lt_succ hj) with h | rfl
    · exact h4 j h hn
    · omega
theorem Lst.take {ls : List (Int × Int)} {dn : List Bool} {k : Nat} {b : Int} (h : Lst ls dn k b) (hk : dn.getD k default = false) (hp : b = -1 ∨ me ls k < me ls b) : Lst ls dn (k + 1) (k : Int) := by
  refine .inr ⟨k, rfl, by omega, hk, fun j hj hn => ?_⟩
  by_cases e : j = k
  · subst e; omega
  · have hj' : j < k := by omega
    rcases h with ⟨h1, h2⟩ | ⟨c, h1, h2, h3, h4⟩
    · rw [h2 j hj'] at hn; cases hn
    · have := h4 j hj' hn
      rcases hp with hp | hp
      · omega
      · rw [h1] at hp; omega
theorem dS_le {ls : List (Int × Int)} {dn : List Bool} (h : ∀ j, j < ls.length → dn.getD j default = true) : dS ls dn = sumP ls := by
  unfold dS
  rw [List.filter_eq_self.2, sumA_idx]
  intro i hi
  obtain ⟨h0, h1⟩ := mem_idx.1 hi
  exact h i.toNat (by omega)
theorem Lst.fin {ls : List (Int × Int)} {dn : List Bool} {b : Int} {need nd : Int} (h : Lst ls dn ls.length b) (hnd : nd = max 0 (need - dS ls dn)) (h0 : 0 < nd) (hn : need ≤ sumP ls) : ∃ c : Nat, b = (c : Int) ∧ c < ls.length ∧ dn.getD c default = false ∧ ∀ j, j < ls.length → dn.getD j default = false → me ls c ≤ me ls j := by
  rcases h with ⟨h1, h2⟩ | h
  · rw [dS_le h2] at hnd; omega
  · exact h

def mark (ls : List (Int × Int)) (m : Int) (dn : List Bool) (k : Nat) : List Bool := (List.range dn.length).map fun j => dn.getD j default || (decide (j < k) && me ls j == m)
theorem length_mark (ls : List (Int × Int)) (m : Int) (dn : List Bool) (k : Nat) : (mark ls m dn k).length = dn.length := by simp [mark]
theorem mark_at {ls : List (Int × Int)} {m : Int} {dn : List Bool} {k j : Nat} (hj : j < dn.length) : (mark ls m dn k).getD j default = (dn.getD j default || (decide (j < k) && me ls j == m)) := by
  simp [mark, hj]
theorem extG {α : Type} [Inhabited α] {a b : List α} (hl : a.length = b.length) (h : ∀ j, j < a.length → a.getD j default = b.getD j default) : a = b := by
  apply List.ext_getElem hl
  intro j h1 h2
  have := h j h1
  simpa [List.getD_eq_getElem?_getD, List.getElem?_eq_getElem h1, List.getElem?_eq_getElem h2] using this
theorem mark_zero (ls : List (Int × Int)) (m : Int) (dn : List Bool) : mark ls m dn 0 = dn := by
  refine extG (length_mark ..) fun j hj => ?_
  rw [length_mark] at hj
  rw [mark_at hj]
  simp
theorem mark_set {ls : List (Int × Int)} {m : Int} {dn : List Bool} {k : Nat} (hk : k < dn.length) (hm : me ls k = m) : (mark ls m dn k).set k true = mark ls m dn (k + 1) := by
  refine extG (by simp [length_mark]) fun j hj => ?_
  rw [List.length_set, length_mark] at hj
  rw [mark_at hj]
  by_cases e : k = j
  · subst e
    rw [getD_set_self _ _ _ (by rw [length_mark]; exact hk)]
    simp [hm]
  · rw [getD_set_ne _ _ _ _ e, mark_at hj]
    congr 2
    exact decide_eq_decide.2 (by omega)
theorem mark_skip {ls : List (Int × Int)} {m : Int} {dn : List Bool} {k : Nat} (hm : me ls k ≠ m) : mark ls m dn (k + 1) = mark ls m dn k := by
  refine extG (by simp [length_mark]) fun j hj => ?_
  rw [length_mark] at hj
  rw [mark_at hj, mark_at hj]
  by_cases e : j = k
  · subst e
    have : (me ls j == m) = false := by simpa using hm
    simp [this]
  · congr 2
    exact decide_eq_decide.2 (by omega)
def sK (ls : List (Int × Int)) (m : Int) (k : Nat) : Int := sumA ls ((idx k).filter fun i => me ls i == m)
theorem sK_succ (ls : List (Int × Int)) (m : Int) (k : Nat) : sK ls m (k + 1) = sK ls m k + if me ls k = m then am ls k else 0 := by
  unfold sK
  rw [idx_succ, List.filter_append, sumA_append]
  congr 1
  by_cases h : me ls k = m
  · simp [h, sumA, am]
  · simp [h, sumA]
theorem sK_bd {ls : List (Int × Int)} (hls : ∀ p ∈ ls, 0 ≤ p.1 ∧ p.1 ≤ 1048576) {m : Int} {k : Nat} (hk : k ≤ ls.length) : 0 ≤ sK ls m k ∧ sK ls m k ≤ 1048576 * k := by
  have h := sumA_nonneg hls (G := (idx k).filter fun i => me ls i == m) fun i hi => by
    have := mem_idx.1 (List.mem_filter.1 hi).1
    omega
  have hl : ((idx k).filter fun i => me ls i == m).length ≤ k := Nat.le_trans (List.length_filter_le _ _) (by rw [length_idx]; exact Nat.le_refl _)
  unfold sK
  omega
/-- the rounds: what is done, what is cut -/
structure Rnd (ls : List (Int × Int)) (need nd : Int) (dn : List Bool) (C : List Int) : Prop where
  ldn : dn.length = ls.length
  lC : C.length = ls.length
  ord : ∀ i j, i < ls.length → j < ls.length → dn.getD i default = true → dn.getD j default = false → me ls i < me ls j
  left : nd = max 0 (need - dS ls dn)
  at_ : ∀ i, i < ls.length → C.getD i default = if dn.getD i default then cutF ls need i else 0
theorem Rnd.start {ls : List (Int × Int)} {need : Int} (h0 : 0 ≤ need) : Rnd ls need need (List.replicate ls.length false) (List.replicate ls.length 0) := by
  have hf : ∀ j, (List.replicate ls.length false).getD j default = false := fun j => by
    rw [List.getD_eq_getElem?_getD, List.getElem?_replicate]; split <;> rfl
  refine ⟨by simp, by simp, fun i j _ _ h => absurd h (by rw [hf]; decide), ?_, fun i hi => ?_⟩
  · have : dS ls (List.replicate ls.length false) = 0 := by
      unfold dS
      rw [List.filter_eq_nil_iff.2 fun i _ => by rw [hf]; decide]
      rfl
    omega
  · rw [hf]
    simp [hi]
theorem Rnd.sum_bd {ls : List (Int × Int)} (hls : ∀ p ∈ ls, 0 ≤ p.1 ∧ p.1 ≤ 1048576) (dn : List Bool) : 0 ≤ dS ls dn ∧ dS ls dn ≤ 1048576 * ls.length := by
  have h := sumA_nonneg hls (G := (idx ls.length).filter fun i => dn.getD i.toNat default) fun i hi => mem_idx.1 (List.mem_filter.1 hi).1
  have hl : ((idx ls.length).filter fun i => dn.getD i.toNat default).length ≤ ls.length := Nat.le_trans (List.length_filter_le _ _) (by rw [length_idx]; exact Nat.le_refl _)
  unfold dS
  omega
theorem sumA_split (ls : List (Int × Int)) (p q : Int → Bool) (h : ∀ i, ¬ (p i = true ∧ q i = true)) : ∀ G : List Int, sumA ls (G.filter fun i => p i || q i) = sumA ls (G.filter p) + sumA ls (G.filter q) := by
  intro G
  induction G with
  | nil => rfl
  | cons g G ih =>
    simp only [List.filter_cons]
    cases hp : p g <;> cases hq : q g
    · simpa using ih
    · simp [sumA] at ih ⊢; omega
    · simp [sumA] at ih ⊢; omega
    · exact absurd ⟨hp, hq⟩ (h g)
/-- one round -/
theorem Rnd.step {ls : List (Int × Int)} {need nd cut : Int} {dn : List Bool} {C C' : List Int} {c : Nat} (hls : ∀ p ∈ ls, 0 ≤ p.1 ∧ p.1 ≤ 1048576) (h : Rnd ls need nd dn C) (h0 : 0 < nd) (hc : c < ls.length) (hcd : dn.getD c default = false) (hmin : ∀ j, j < ls.length → dn.getD j default = false → me ls c ≤ me ls j)
    (hcut : cut = if sumA ls (grp ls (me ls c)) < nd then sumA ls (grp ls (me ls c)) else nd) (hl : C'.length = ls.length) (hC : ∀ i, i < ls.length → C'.getD i default = C.getD i default + if me ls i = me ls c then cutG ls (grp ls (me ls c)) cut i else 0) :
    Rnd ls need (nd - cut) (mark ls (me ls c) dn ls.length) C' ∧ cut = partOf ls need (me ls c) := by
  have hbelow : below ls (me ls c) = dS ls dn := by
    unfold below dS
    congr 1
    refine List.filter_congr fun i hi => ?_
    obtain ⟨hi0, hi1⟩ := mem_idx.1 hi
    cases hd : dn.getD i.toNat default with
    | true =>
      refine decide_eq_true ?_
      have := h.ord i.toNat c (by omega) hc hd hcd
      rwa [Int.toNat_of_nonneg hi0] at this
    | false =>
      refine decide_eq_false ?_
      have := hmin i.toNat (by omega) hd
      rw [Int.toNat_of_nonneg hi0] at this
      omega
  have hS0 : 0 ≤ sumA ls (grp ls (me ls c)) := (sumA_nonneg hls (fun i hi => mem_idx.1 (List.mem_filter.1 hi).1)).1
  have hpart : cut = partOf ls need (me ls c) := by
    rw [hcut]
    unfold partOf
    exact part_eq (by rw [hbelow]; exact h.left) h0 hS0
  have hmk : ∀ i, i < ls.length → (mark ls (me ls c) dn ls.length).getD i default = (dn.getD i default || me ls i == me ls c) := fun i hi => by
    rw [mark_at (by rw [h.ldn]; exact hi)]
    simp [hi]
  have hdis : ∀ i, i < ls.length → me ls i = me ls c → dn.getD i default = false := fun i hi hm => by
    cases hd : dn.getD i default with
    | false => rfl
    | true => have := h.ord i c hi hc hd hcd; omega
  have hdS : dS ls (mark ls (me ls c) dn ls.length) = dS ls dn + sumA ls (grp ls (me ls c)) := by
    unfold dS grp
    have e : ((idx ls.length).filter fun i => (mark ls (me ls c) dn ls.length).getD i.toNat default) = (idx ls.length).filter fun i => (decide (0 ≤ i ∧ i < (ls.length : Int)) && dn.getD i.toNat default) || (decide (0 ≤ i ∧ i < (ls.length : Int)) && me ls i == me ls c) := by
      refine List.filter_congr fun i hi => ?_
      have hi' := mem_idx.1 hi
      rw [hmk i.toNat (by omega), Int.toNat_of_nonneg hi'.1]
      simp [hi'.1, hi'.2]
    rw [e, sumA_split]
    · congr 2
      · refine List.filter_congr fun i hi => ?_
        have hi' := mem_idx.1 hi
        simp [hi'.1, hi'.2]
      · refine List.filter_congr fun i hi => ?_
        have hi' := mem_idx.1 hi
        simp [hi'.1, hi'.2]
    · rintro i ⟨hp, hq⟩
      simp only [Bool.and_eq_true, decide_eq_true_eq, beq_iff_eq] at hp hq
      have := hdis i.toNat (by omega) (by rw [Int.toNat_of_nonneg hp.1.1]; exact hq.2)
      rw [this] at hp
      exact absurd hp.2 (by decide)
  refine ⟨⟨by rw [length_mark, h.ldn], hl, ?_, ?_, ?_⟩, hpart⟩
  · intro i j hi hj hi1 hj1
    rw [hmk i hi] at hi1
    rw [hmk j hj] at hj1
    rw [Bool.or_eq_false_iff] at hj1
    have hj2 : me ls j ≠ me ls c := by simpa using hj1.2
    have hj3 := hmin j hj hj1.1
    rcases (Bool.or_eq_true _ _ ▸ hi1 : _ ∨ _) with hi1 | hi1
    · exact h.ord i j hi hj hi1 hj1.1
    · have : me ls i = me ls c := by simpa using hi1
      omega
  · rw [hdS]
    have := h.left
    split at hcut <;> omega
  · intro i hi
    rw [hC i hi, h.at_ i hi, hmk i hi]
    by_cases hm : me ls i = me ls c
    · rw [hdis i hi hm]
      have e : (me ls i == me ls c) = true := by simpa using hm
      rw [e, if_pos hm, hpart]
      simp only [Bool.false_eq_true, if_false, Bool.or_true, if_true]
      unfold cutF
      rw [hm]
      omega
    · have e : (me ls i == me ls c) = false := by simpa using hm
      rw [e, if_neg hm]
      simp
theorem Rnd.fin {ls : List (Int × Int)} {need nd : Int} {dn : List Bool} {C : List Int} (hls : ∀ p ∈ ls, 0 ≤ p.1 ∧ p.1 ≤ 1048576) (h : Rnd ls need nd dn C) (h0 : ¬ 0 < nd) : C = curtF ls need := by
  refine curt_all h.lC fun i hi0 hi1 => ?_
  rw [h.at_ i.toNat (by omega)]
  cases hd : dn.getD i.toNat default with
  | true => rw [if_pos rfl, Int.toNat_of_nonneg hi0]
  | false =>
    rw [if_neg (by decide)]
    have hb : dS ls dn ≤ below ls (me ls i) := by
      have key : ∀ G : List Int, (∀ j ∈ G, 0 ≤ j ∧ j < (ls.length : Int)) → sumA ls (G.filter fun i => dn.getD i.toNat default) ≤ sumA ls (G.filter fun j => decide (me ls j < me ls i)) := by
        intro G
        induction G with
        | nil => intro _; exact Int.le_refl _
        | cons g G ih =>
          intro hG
          have hg := hG g (by simp)
          have ih' := ih fun j hj => hG j (by simp [hj])
          have hg0 : 0 ≤ (ls.getD g.toNat default).1 := by
            have : ls.getD g.toNat default ∈ ls := by
              rw [List.getD_eq_getElem?_getD, List.getElem?_eq_getElem (show g.toNat < ls.length by omega)]
              exact List.getElem_mem _
            exact (hls _ this).1
          simp only [List.filter_cons]
          cases hdg : dn.getD g.toNat default with
          | true =>
            have hlt := h.ord g.toNat i.toNat (by omega) (by omega) hdg hd
            rw [Int.toNat_of_nonneg hg.1, Int.toNat_of_nonneg hi0] at hlt
            rw [decide_eq_true hlt]
            simp only [if_true]
            simp only [sumA, List.map_cons, List.sum_cons] at ih' ⊢
            omega
          | false =>
            simp only [Bool.false_eq_true, if_false]
            split
            · simp only [sumA, List.map_cons, List.sum_cons] at ih' ⊢
              omega
            · exact ih'
      exact key _ fun j hj => mem_idx.1 hj
    have hS0 : 0 ≤ sumA ls (grp ls (me ls i)) := (sumA_nonneg hls (fun i hi => mem_idx.1 (List.mem_filter.1 hi).1)).1
    have hp : partOf ls need (me ls i) = 0 := by
      unfold partOf
      have := h.left
      omega
    unfold cutF
    rw [hp, cut_zero]
/-- adding a list up to k -/
def addK (C A : List Int) (k : Nat) : List Int := (List.range C.length).map fun j => C.getD j default + if j < k then A.getD j default else 0
theorem length_addK (C A : List Int) (k : Nat) : (addK C A k).length = C.length := by simp [addK]
theorem addK_at {C A : List Int} {k j : Nat} (hj : j < C.length) : (addK C A k).getD j default = C.getD j default + if j < k then A.getD j default else 0 := by simp [addK, hj]
theorem addK_zero (C A : List Int) : addK C A 0 = C := extG (length_addK ..) fun j hj => by
  rw [length_addK] at hj
  rw [addK_at hj]; simp
theorem addK_set {C A : List Int} {k : Nat} (hk : k < C.length) : (addK C A k).set k (C.getD k default + A.getD k default) = addK C A (k + 1) := by
  refine extG (by simp [length_addK]) fun j hj => ?_
  rw [List.length_set, length_addK] at hj
  rw [addK_at hj]
  by_cases e : k = j
  · subst e
    rw [getD_set_self _ _ _ (by rw [length_addK]; exact hk), if_pos (by omega)]
  · rw [getD_set_ne _ _ _ _ e, addK_at hj]
    congr 1
    by_cases h : j < k
    · rw [if_pos h, if_pos (by omega)]
    · rw [if_neg h, if_neg (by omega)]
end Go.Proofs.Ytppgppnkhpjlpaa
namespace Go.Proofs.Ytppgppnkhpjlpaa
open Go.Vm Go.Vg
/-- how many are left -/
def leftN (dn : List Bool) : Nat := ((List.range dn.length).filter fun j => !dn.getD j default).length
theorem left_mark {ls : List (Int × Int)} {dn : List Bool} {c : Nat} (hl : dn.length = ls.length) (hc : c < ls.length) (hd : dn.getD c default = false) : leftN (mark ls (me ls c) dn ls.length) < leftN dn := by
  unfold leftN
  rw [length_mark]
  have hmem : c ∈ (List.range dn.length).filter fun j => !dn.getD j default := List.mem_filter.2 ⟨List.mem_range.2 (by omega), by rw [hd]; rfl⟩
  have h := sub_len (a := (List.range dn.length).filter fun j => !(mark ls (me ls c) dn ls.length).getD j default) (b := ((List.range dn.length).filter fun j => !dn.getD j default).erase c) (List.nodup_range.filter _) fun x hx => by
    obtain ⟨hx1, hx2⟩ := List.mem_filter.1 hx
    have hx1' := List.mem_range.1 hx1
    rw [mark_at hx1'] at hx2
    have hxl : x < ls.length := by omega
    simp only [hxl, decide_true, Bool.true_and, Bool.not_or, Bool.and_eq_true, Bool.not_eq_true', beq_eq_false_iff_ne, ne_eq] at hx2
    refine (List.mem_erase_of_ne (fun e => hx2.2 (by rw [e]))).2 (List.mem_filter.2 ⟨hx1, by rw [hx2.1]; rfl⟩)
  rw [List.length_erase_of_mem hmem] at h
  have := List.length_pos_of_mem hmem
  omega
theorem cutG_bd {ls : List (Int × Int)} (hls : ∀ p ∈ ls, 0 ≤ p.1 ∧ p.1 ≤ 1048576) (hn : ls.length ≤ 32) {m part i : Int} (hp : 0 ≤ part ∧ part ≤ 33554432) (hi : 0 ≤ i ∧ i < (ls.length : Int)) : 0 ≤ cutG ls (grp ls m) part i ∧ cutG ls (grp ls m) part i ≤ 35184372088833 := by
  have hS := sumA_nonneg hls (G := grp ls m) fun i hi => mem_idx.1 (List.mem_filter.1 hi).1
  have hl : (grp ls m).length ≤ ls.length := Nat.le_trans (List.length_filter_le _ _) (by rw [length_idx]; exact Nat.le_refl _)
  have hq : 0 ≤ qF ls part (sumA ls (grp ls m)) i ∧ qF ls part (sumA ls (grp ls m)) i ≤ 35184372088832 := by
    by_cases h0 : 0 < sumA ls (grp ls m)
    · exact q_bd hls hp ⟨h0, by omega⟩ hi
    · have : sumA ls (grp ls m) = 0 := by omega
      unfold qF
      rw [this, Int.ediv_zero]
      omega
  unfold cutG
  split <;> omega
theorem part_bd {ls : List (Int × Int)} (hls : ∀ p ∈ ls, 0 ≤ p.1 ∧ p.1 ≤ 1048576) {m cut : Int} (hc : 0 ≤ cut ∧ cut ≤ 33554432) {k : Nat} (hk : k < (partL ls m cut).length) : 0 ≤ (partL ls m cut).getD k default ∧ (partL ls m cut).getD k default ≤ ((35184372088832 : Int) : Rat) := by
  rw [length_partL] at hk
  rw [partL_at hk]
  have hz : (0 : Rat) ≤ ((35184372088832 : Int) : Rat) := Rat.intCast_le_intCast (a := 0).2 (by decide)
  split
  · have ham : 0 ≤ am ls k ∧ am ls k ≤ 1048576 := by
      have : ls.getD k default ∈ ls := by
        rw [List.getD_eq_getElem?_getD, List.getElem?_eq_getElem hk]; exact List.getElem_mem _
      exact hls _ this
    have hm := mul_bound hc ham
    have hS := sumA_nonneg hls (G := grp ls m) fun i hi => mem_idx.1 (List.mem_filter.1 hi).1
    have h1 : (0 : Rat) ≤ ((cut * am ls k : Int) : Rat) := Rat.intCast_le_intCast (a := 0).2 hm.1
    have h2 : ((cut * am ls k : Int) : Rat) ≤ ((35184372088832 : Int) : Rat) := Rat.intCast_le_intCast.2 hm.2
    generalize cut * am ls k = z at *
    by_cases h0 : 0 < sumA ls (grp ls m)
    · have hb0 : (1 : Rat) ≤ ((sumA ls (grp ls m) : Int) : Rat) := Rat.intCast_le_intCast (a := 1).2 h0
      have hbp : (0 : Rat) < ((sumA ls (grp ls m) : Int) : Rat) := by grind
      refine ⟨by rw [Rat.div_def]; exact Rat.mul_nonneg h1 (Rat.le_of_lt (Rat.inv_pos.2 hbp)), ?_⟩
      have h3 := Rat.mul_le_mul_of_nonneg_left hb0 hz
      rw [Rat.mul_one] at h3
      have h4 := Rat.le_trans h2 h3
      refine Rat.not_lt.1 fun h => ?_
      have h5 := Rat.mul_lt_mul_of_pos_right h hbp
      rw [Rat.div_mul_cancel (Rat.ne_of_gt hbp)] at h5
      grind
    · have : sumA ls (grp ls m) = 0 := by omega
      rw [this, show ((0 : Int) : Rat) = 0 from rfl, Rat.div_def, Rat.inv_zero, Rat.mul_zero]
      exact ⟨Rat.le_refl, hz⟩
  · exact ⟨Rat.le_refl, hz⟩
end Go.Proofs.Ytppgppnkhpjlpaa
