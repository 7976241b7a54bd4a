/-
  PLAIN LAWS OF A CURTAILMENT: what each load's cut is.
-/
import Derived.Test.YtppgppnkhpjlpaaMdiv
namespace Go.Proofs.Ytppgppnkhpjlpaa
open Go.Vm Go.Vg
def me (ls : List (Int × Int)) (i : Int) : Int := (ls.getD i.toNat default).2
def am (ls : List (Int × Int)) (i : Int) : Int := (ls.getD i.toNat default).1
def idx (n : Nat) : List Int := (List.range n).map fun k : Nat => (k : Int)
def grp (ls : List (Int × Int)) (m : Int) : List Int := (idx ls.length).filter fun i => me ls i == m
def below (ls : List (Int × Int)) (m : Int) : Int := sumA ls ((idx ls.length).filter fun i => decide (me ls i < m))
def partOf (ls : List (Int × Int)) (need m : Int) : Int := max 0 (min (need - below ls m) (sumA ls (grp ls m)))
def rankF (ls : List (Int × Int)) (G : List Int) (part S i : Int) : Nat := (G.filter fun j => decide (remF ls part S i < remF ls part S j ∨ (remF ls part S j = remF ls part S i ∧ j < i))).length
def cutG (ls : List (Int × Int)) (G : List Int) (part i : Int) : Int := qF ls part (sumA ls G) i + if (rankF ls G part (sumA ls G) i : Int) < part - sumQ ls part (sumA ls G) G then 1 else 0
def cutF (ls : List (Int × Int)) (need i : Int) : Int := cutG ls (grp ls (me ls i)) (partOf ls need (me ls i)) i
def curtF (ls : List (Int × Int)) (need : Int) : List Int := (idx ls.length).map (cutF ls need)

theorem mem_idx {n : Nat} {i : Int} : i ∈ idx n ↔ 0 ≤ i ∧ i < (n : Int) := by
  simp only [idx, List.mem_map, List.mem_range]
  constructor
  · rintro ⟨k, hk, rfl⟩; omega
  · intro h; exact ⟨i.toNat, by omega, by omega⟩
theorem idx_asc (n : Nat) : (idx n).Pairwise (· < ·) := by
  unfold idx
  rw [List.pairwise_map]
  exact List.Pairwise.imp (by intro a b h; omega) List.pairwise_lt_range
theorem length_idx (n : Nat) : (idx n).length = n := by simp [idx]

theorem length_sets (C G : List Int) (q : Int → Int) : (sets C G q).length = C.length := by
  induction G generalizing C with
  | nil => rfl
  | cons g G ih => show (sets (C.set g.toNat (q g)) G q).length = _; rw [ih]; simp
theorem length_incs (C P : List Int) : (incs C P).length = C.length := by
  induction P generalizing C with
  | nil => rfl
  | cons g P ih => show (incs (C.set g.toNat (C.getD g.toNat default + 1)) P).length = _; rw [ih]; simp
theorem getD_set_ne {α : Type} [Inhabited α] (l : List α) (k j : Nat) (x : α) (h : k ≠ j) : (l.set k x).getD j default = l.getD j default := by
  simp [List.getD_eq_getElem?_getD, List.getElem?_set_ne h]
theorem sets_pt {C G : List Int} {q : Int → Int} (hr : ∀ i ∈ G, 0 ≤ i ∧ i < (C.length : Int)) {i : Int} (hi : 0 ≤ i ∧ i < (C.length : Int)) : (sets C G q).getD i.toNat default = if i ∈ G then q i else C.getD i.toNat default := by
  induction G generalizing C with
  | nil => simp [sets]
  | cons g G ih =>
    show (sets (C.set g.toNat (q g)) G q).getD i.toNat default = _
    have hg := hr g (by simp)
    rw [ih (C := C.set g.toNat (q g)) (fun j hj => by have := hr j (by simp [hj]); simpa using this) (by simpa using hi)]
    by_cases hiG : i ∈ G
    · simp [hiG]
    · by_cases hig : i = g
      · subst hig
        rw [if_neg hiG, if_pos (by simp), getD_set_self _ _ _ (by omega)]
      · rw [if_neg hiG, if_neg (by simp [hig, hiG]), getD_set_ne _ _ _ _ (by omega)]
theorem incs_pt {C P : List Int} (hn : P.Nodup) (hr : ∀ i ∈ P, 0 ≤ i ∧ i < (C.length : Int)) {i : Int} (hi : 0 ≤ i ∧ i < (C.length : Int)) : (incs C P).getD i.toNat default = C.getD i.toNat default + if i ∈ P then 1 else 0 := by
  induction P generalizing C with
  | nil => simp [incs]
  | cons g P ih =>
    show (incs (C.set g.toNat (C.getD g.toNat default + 1)) P).getD i.toNat default = _
    have hg := hr g (by simp)
    rw [List.nodup_cons] at hn
    rw [ih (C := C.set g.toNat (C.getD g.toNat default + 1)) hn.2 (fun j hj => by have := hr j (by simp [hj]); simpa using this) (by simpa using hi)]
    by_cases hig : i = g
    · subst hig
      rw [getD_set_self _ _ _ (by omega), if_neg hn.1, if_pos (by simp)]
      omega
    · rw [getD_set_ne _ _ _ _ (by omega)]
      by_cases hiP : i ∈ P
      · simp [hiP]
      · simp [hiP, hig]

theorem nodup_of_asc {l : List Int} (h : l.Pairwise (· < ·)) : l.Nodup := List.Pairwise.imp (fun h => by omega) h
/-- the place of an element in a stable sorted list -/
theorem rank_take {key : Int → Int} {G P : List Int} (hG : G.Pairwise (· < ·)) (hs : Srt key P) (he : StE key G P) {i : Int} (hi : i ∈ G) (M : Nat) :
    i ∈ P.take M ↔ (G.filter fun j => decide (key j < key i ∨ (key j = key i ∧ j < i))).length < M := by
  have hperm : G.Perm P := he.perm
  have hPn : P.Nodup := hperm.nodup_iff.1 (nodup_of_asc hG)
  obtain ⟨P1, P2, hP⟩ := List.append_of_mem (he.mem hi)
  have hn := hPn
  rw [hP, List.nodup_append] at hn
  have hi2 : i ∉ P2 := (List.nodup_cons.1 hn.2.1).1
  have hi1 : i ∉ P1 := fun h => hn.2.2 i h i (by simp) rfl
  -- those of the key of i stand in ascending order
  have hasc : ((P1 ++ i :: P2).filter fun x => key x == key i).Pairwise (· < ·) := by
    rw [← hP, ← he (key i)]; exact List.Pairwise.filter _ hG
  rw [List.filter_append, List.filter_cons_of_pos (by simp)] at hasc
  have ha := List.pairwise_append.1 hasc
  have h1 : ∀ j ∈ P1, key j < key i ∨ (key j = key i ∧ j < i) := fun j hj => by
    have hle : key j ≤ key i := by rw [hP] at hs; exact hs.le hj (by simp)
    rcases Int.lt_or_eq_of_le hle with h | h
    · exact .inl h
    · exact .inr ⟨h, ha.2.2 j (by rw [List.mem_filter]; exact ⟨hj, by simp [h]⟩) i (by simp)⟩
  have h2 : ∀ j ∈ i :: P2, ¬ (key j < key i ∨ (key j = key i ∧ j < i)) := fun j hj => by
    rcases List.mem_cons.1 hj with rfl | hj
    · omega
    · have hle : key i ≤ key j := by rw [hP] at hs; exact (List.pairwise_cons.1 hs.right).1 j hj
      rintro (h | ⟨h, h'⟩)
      · omega
      · have := (List.pairwise_cons.1 ha.2.1).1 j (by rw [List.mem_filter]; exact ⟨hj, by simp [h]⟩)
        omega
  have hlen : (G.filter fun j => decide (key j < key i ∨ (key j = key i ∧ j < i))).length = P1.length := by
    rw [(hperm.filter _).length_eq, hP, List.filter_append, List.filter_eq_self.2 (fun j hj => by simpa using h1 j hj), List.filter_eq_nil_iff.2 (fun j hj => by simpa using h2 j hj)]
    simp
  rw [hlen, hP]
  constructor
  · intro h
    rcases Nat.lt_or_ge P1.length M with hM | hM
    · exact hM
    · rw [List.take_append_of_le_length hM] at h
      exact absurd (List.mem_of_mem_take h) hi1
  · intro h
    rw [List.take_append, List.take_of_length_le (by omega)]
    obtain ⟨d, hd⟩ : ∃ d, M - P1.length = d + 1 := ⟨M - P1.length - 1, by omega⟩
    rw [hd]
    simp

theorem div_pt {ls : List (Int × Int)} {G C C' : List Int} {part : Int} (h : DivSpec ls G part (sumA ls G) C C') (hG : G.Pairwise (· < ·)) (hr : ∀ i ∈ G, 0 ≤ i ∧ i < (C.length : Int)) (hz : ∀ i ∈ G, C.getD i.toNat default = 0) (hp : 0 ≤ part) (hpS : part ≤ sumA ls G) {i : Int} (hi : 0 ≤ i ∧ i < (C.length : Int)) :
    C'.getD i.toNat default = if i ∈ G then cutG ls G part i else C.getD i.toNat default := by
  rcases h with ⟨h0, rfl⟩ | ⟨h0, P, hs, he, rfl⟩
  · by_cases hiG : i ∈ G
    · rw [if_pos hiG, hz i hiG]
      have hp0 : part = 0 := by omega
      subst hp0
      have hq : ∀ j, qF ls 0 (sumA ls G) j = 0 := fun j => by simp [qF]
      have hsq : sumQ ls 0 (sumA ls G) G = 0 := by
        unfold sumQ
        rw [List.map_congr_left (g := fun _ => (0 : Int)) (fun j _ => hq j)]
        generalize G = G'
        induction G' with
        | nil => rfl
        | cons a G' ih => simpa using ih
      unfold cutG
      rw [hq, hsq, if_neg (by omega)]
      rfl
    · rw [if_neg hiG]
  · have hperm : G.Perm P := he.perm
    have hPn : P.Nodup := hperm.nodup_iff.1 (nodup_of_asc hG)
    have hPr : ∀ j ∈ P.take (part - sumQ ls part (sumA ls G) G).toNat, 0 ≤ j ∧ j < ((sets C G (qF ls part (sumA ls G))).length : Int) := fun j hj => by
      rw [length_sets]; exact hr j (he.symm.mem (List.mem_of_mem_take hj))
    rw [incs_pt (List.Nodup.sublist (List.take_sublist _ _) hPn) hPr (by rw [length_sets]; exact hi), sets_pt hr hi]
    by_cases hiG : i ∈ G
    · rw [if_pos hiG, if_pos hiG]
      unfold cutG
      congr 1
      have hrk := rank_take hG hs he hiG (part - sumQ ls part (sumA ls G) G).toNat
      have e : (G.filter fun j => decide (-(remF ls part (sumA ls G) j) < -(remF ls part (sumA ls G) i) ∨ (-(remF ls part (sumA ls G) j) = -(remF ls part (sumA ls G) i) ∧ j < i))).length = rankF ls G part (sumA ls G) i := by
        unfold rankF
        congr 1
        apply List.filter_congr
        intro j _
        rw [decide_eq_decide]
        constructor <;> rintro (h | h) <;> omega
      rw [e] at hrk
      by_cases hc : (rankF ls G part (sumA ls G) i : Int) < part - sumQ ls part (sumA ls G) G
      · rw [if_pos hc, if_pos (hrk.2 (by omega))]
      · rw [if_neg hc, if_neg (fun h => hc (by have := hrk.1 h; omega))]
    · rw [if_neg hiG, if_neg hiG, if_neg (fun h => hiG (he.symm.mem (List.mem_of_mem_take h)))]
      omega

theorem sumA_append (ls : List (Int × Int)) (a b : List Int) : sumA ls (a ++ b) = sumA ls a + sumA ls b := by simp [sumA]
theorem sumA_perm {ls : List (Int × Int)} {a b : List Int} (h : a.Perm b) : sumA ls a = sumA ls b := by
  unfold sumA
  induction h with
  | nil => rfl
  | cons x _ ih => simp only [List.map_cons, List.sum_cons, ih]
  | swap x y l => simp only [List.map_cons, List.sum_cons]; omega
  | trans _ _ h1 h2 => exact h1.trans h2
theorem sumA_nonneg {ls : List (Int × Int)} (hls : ∀ p ∈ ls, 0 ≤ p.1 ∧ p.1 ≤ 1048576) {G : List Int} (hG : ∀ i ∈ G, 0 ≤ i ∧ i < (ls.length : Int)) : 0 ≤ sumA ls G ∧ sumA ls G ≤ 1048576 * G.length := by
  induction G with
  | nil => simp [sumA]
  | cons g G ih =>
    have h1 := ih fun i hi => hG i (by simp [hi])
    have hg := hG g (by simp)
    have h2 := hls (ls.getD g.toNat default) (getD_mem _ _ (by omega))
    simp only [sumA, List.map_cons, List.sum_cons, List.length_cons] at *
    omega
theorem cut_zero (ls : List (Int × Int)) (G : List Int) (i : Int) : cutG ls G 0 i = 0 := by
  have hq : ∀ j, qF ls 0 (sumA ls G) j = 0 := fun j => by simp [qF]
  have hsq : sumQ ls 0 (sumA ls G) G = 0 := by
    unfold sumQ
    rw [List.map_congr_left (g := fun _ => (0 : Int)) (fun j _ => hq j)]
    generalize G = G'
    induction G' with
    | nil => rfl
    | cons a G' ih => simpa using ih
  unfold cutG
  rw [hq, hsq, if_neg (by omega)]
  rfl

/-- the first group of what is left is the group of its merit -/
theorem grp_eq {ls : List (Int × Int)} {Dn R : List Int} (hs : Srt (me ls) (Dn ++ R)) (he : StE (me ls) (idx ls.length) (Dn ++ R)) (hB : ∀ i ∈ Dn, ∀ j ∈ R, me ls i < me ls j) {k : Nat} (hk : 0 < k) (hkR : k ≤ R.length) (hsame : ∀ j ∈ R.take k, me ls j = me ls (R.getD 0 default)) (hend : k = R.length ∨ me ls (R.getD k default) ≠ me ls (R.getD 0 default)) :
    R.take k = grp ls (me ls (R.getD 0 default)) ∧ ∀ j ∈ R.drop k, me ls (R.getD 0 default) < me ls j := by
  have hR0 : R.getD 0 default ∈ R := getD_mem _ _ (by omega)
  have hdrop : ∀ j ∈ R.drop k, me ls (R.getD 0 default) < me ls j := fun j hj => by
    obtain ⟨q, hq, hql, rfl⟩ := mem_drop_at hj
    rcases hend with h | h
    · omega
    · have h1 := hs.right.at (i := 0) (j := k) (by omega) (by omega)
      have h2 := hs.right.at (i := k) (j := q) hq hql
      omega
  refine ⟨?_, hdrop⟩
  unfold grp
  rw [he (me ls (R.getD 0 default)), List.filter_append]
  have e1 : Dn.filter (fun x => me ls x == me ls (R.getD 0 default)) = [] := by
    rw [List.filter_eq_nil_iff]; intro i hi h; have := hB i hi _ hR0; rw [beq_iff_eq] at h; omega
  have e2 : R.filter (fun x => me ls x == me ls (R.getD 0 default)) = R.take k := by
    rw [← List.take_append_drop k R, List.filter_append]
    rw [List.take_append_drop]
    rw [List.filter_eq_self.2 (fun j hj => by rw [beq_iff_eq]; exact hsame j hj), List.filter_eq_nil_iff.2 (fun j hj h => by have := hdrop j hj; rw [beq_iff_eq] at h; omega)]
    simp
  rw [e1, e2, List.nil_append]
theorem below_eq {ls : List (Int × Int)} {Dn R : List Int} (he : StE (me ls) (idx ls.length) (Dn ++ R)) {m : Int} (h1 : ∀ i ∈ Dn, me ls i < m) : sumA ls Dn + sumA ls (R.filter fun i => decide (me ls i < m)) = below ls m := by
  unfold below
  have e : Dn.filter (fun i => decide (me ls i < m)) = Dn := List.filter_eq_self.2 (fun i hi => by simpa using h1 i hi)
  rw [sumA_perm (he.perm.filter _), List.filter_append, sumA_append, e]
theorem part_eq {need nd b S : Int} (hnd : nd = max 0 (need - b)) (h0 : 0 < nd) (hS : 0 ≤ S) : (if S < nd then S else nd) = max 0 (min (need - b) S) := by
  split <;> omega
theorem curt_all {ls : List (Int × Int)} {need : Int} {C : List Int} (hl : C.length = ls.length) (h : ∀ i, 0 ≤ i → i < (ls.length : Int) → C.getD i.toNat default = cutF ls need i) : C = curtF ls need := by
  apply List.ext_getElem
  · simp [curtF, idx, hl]
  · intro k h1 h2
    have := h (k : Int) (by omega) (by omega)
    simp [h1] at this
    simp [curtF, idx, this]

def sumP (l : List (Int × Int)) : Int := (l.map (·.1)).sum
theorem sumP_snoc (l : List (Int × Int)) (p : Int × Int) : sumP (l ++ [p]) = sumP l + p.1 := by simp [sumP]
def okL (p : Int × Int) : Prop := 0 ≤ p.1 ∧ p.1 ≤ 1048576
open Classical in
/-- the error of a curtailment -/
noncomputable def curtE (ls : List (Int × Int)) (need : Int) : Int := if 32 < ls.length then 8 else if (∀ p ∈ ls, 0 ≤ p.1 ∧ p.1 ≤ 1048576) then (if need < 0 ∨ sumP ls < need then 3 else 0) else 3
def fillI (n k : Nat) : List Int := idx k ++ List.replicate (n - k) 0
theorem idx_succ (k : Nat) : idx (k + 1) = idx k ++ [(k : Int)] := by simp [idx, List.range_succ]
theorem fill_set (n k : Nat) (h : k < n) : (fillI n k).set k (k : Int) = fillI n (k + 1) := by
  unfold fillI
  rw [List.set_append_right _ _ (by rw [length_idx]; exact Nat.le_refl _), length_idx, Nat.sub_self, idx_succ]
  obtain ⟨m, hm⟩ : ∃ m, n - k = m + 1 := ⟨n - k - 1, by omega⟩
  rw [hm, List.replicate_succ, show n - (k + 1) = m by omega]
  simp
theorem fill_all (n : Nat) : fillI n n = idx n := by simp [fillI]
theorem sumA_idx (ls : List (Int × Int)) : sumA ls (idx ls.length) = sumP ls := by
  unfold sumA sumP idx
  rw [List.map_map]
  congr 1
  apply List.ext_getElem
  · simp
  · intro k h1 h2
    simp at h1 h2
    simp [h2]
/-- one group is done -/
theorem curt_step {ls : List (Int × Int)} {need nd pt : Int} {Dn R C C' : List Int} {k : Nat} (hls : ∀ p ∈ ls, 0 ≤ p.1 ∧ p.1 ≤ 1048576) (hs : Srt (me ls) (Dn ++ R)) (he : StE (me ls) (idx ls.length) (Dn ++ R)) (hB : ∀ i ∈ Dn, ∀ j ∈ R, me ls i < me ls j)
    (hk : 0 < k) (hkR : k ≤ R.length) (hsame : ∀ j ∈ R.take k, me ls j = me ls (R.getD 0 default)) (hend : k = R.length ∨ me ls (R.getD k default) ≠ me ls (R.getD 0 default))
    (hnd : nd = max 0 (need - sumA ls Dn)) (hnd0 : 0 < nd) (hpt : pt = if sumA ls (R.take k) < nd then sumA ls (R.take k) else nd) (hCl : C.length = ls.length) (hC : ∀ i, 0 ≤ i → i < (ls.length : Int) → C.getD i.toNat default = if i ∈ Dn then cutF ls need i else 0)
    (hd : DivSpec ls (R.take k) pt (sumA ls (R.take k)) C C') :
    (∀ i ∈ Dn ++ R.take k, ∀ j ∈ R.drop k, me ls i < me ls j) ∧ nd - pt = max 0 (need - sumA ls (Dn ++ R.take k)) ∧ ∀ i, 0 ≤ i → i < (ls.length : Int) → C'.getD i.toNat default = if i ∈ Dn ++ R.take k then cutF ls need i else 0 := by
  obtain ⟨hg, hdrop⟩ := grp_eq hs he hB hk hkR hsame hend
  have hin : ∀ i ∈ Dn ++ R, 0 ≤ i ∧ i < (ls.length : Int) := fun i hi => mem_idx.1 (he.symm.mem hi)
  have hGin : ∀ i ∈ R.take k, 0 ≤ i ∧ i < (ls.length : Int) := fun i hi => hin i (List.mem_append_right _ (List.mem_of_mem_take hi))
  have hS := (sumA_nonneg hls hGin).1
  have hR0 : R.getD 0 default ∈ R := getD_mem _ _ (by omega)
  have hbel := below_eq he (m := me ls (R.getD 0 default)) (fun i hi => hB i hi _ hR0)
  have hRf : R.filter (fun i => decide (me ls i < me ls (R.getD 0 default))) = [] := by
    rw [List.filter_eq_nil_iff]
    intro j hj h
    obtain ⟨q, hq, rfl⟩ := List.mem_iff_getElem.1 hj
    have h1 := hs.right.at (i := 0) (j := q) (by omega) hq
    rw [decide_eq_true_eq] at h
    simp [hq] at h1
    simp at h
    omega
  rw [hRf] at hbel
  have hbel' : below ls (me ls (R.getD 0 default)) = sumA ls Dn := by rw [← hbel]; simp [sumA]
  have hpart : pt = partOf ls need (me ls (R.getD 0 default)) := by
    unfold partOf
    rw [hbel', ← hg, hpt]
    exact part_eq hnd hnd0 hS
  refine ⟨fun i hi j hj => ?_, ?_, fun i h0 h1 => ?_⟩
  · rcases List.mem_append.1 hi with hi | hi
    · exact hB i hi j (List.mem_of_mem_drop hj)
    · rw [hsame i hi]; exact hdrop j hj
  · rw [sumA_append, hpt]; split <;> omega
  · have hasc : (R.take k).Pairwise (· < ·) := by rw [hg]; exact List.Pairwise.filter _ (idx_asc _)
    have hnot : ∀ j ∈ R.take k, j ∉ Dn := fun j hj hD => by have := hB j hD j (List.mem_of_mem_take hj); omega
    rw [div_pt hd hasc (fun j hj => by rw [hCl]; exact hGin j hj) (fun j hj => by have := hGin j hj; rw [hC j this.1 this.2, if_neg (hnot j hj)]) (by rw [hpt]; split <;> omega) (by rw [hpt]; split <;> omega) (by rw [hCl]; exact ⟨h0, h1⟩)]
    by_cases hi : i ∈ R.take k
    · rw [if_pos hi, if_pos (List.mem_append_right _ hi)]
      unfold cutF
      rw [hsame i hi, ← hg, ← hpart]
    · rw [if_neg hi, hC i h0 h1]
      by_cases hD : i ∈ Dn
      · rw [if_pos hD, if_pos (List.mem_append_left _ hD)]
      · rw [if_neg hD, if_neg (by simp [hD, hi])]
/-- nothing is left to be cut -/
theorem curt_end {ls : List (Int × Int)} {need nd : Int} {Dn R C : List Int} (hls : ∀ p ∈ ls, 0 ≤ p.1 ∧ p.1 ≤ 1048576) (he : StE (me ls) (idx ls.length) (Dn ++ R)) (hB : ∀ i ∈ Dn, ∀ j ∈ R, me ls i < me ls j)
    (hnd : nd = max 0 (need - sumA ls Dn)) (hfin : R = [] ∨ nd ≤ 0) (hCl : C.length = ls.length) (hC : ∀ i, 0 ≤ i → i < (ls.length : Int) → C.getD i.toNat default = if i ∈ Dn then cutF ls need i else 0) : C = curtF ls need := by
  refine curt_all hCl fun i h0 h1 => ?_
  rw [hC i h0 h1]
  by_cases hD : i ∈ Dn
  · rw [if_pos hD]
  · rw [if_neg hD]
    have hi : i ∈ Dn ++ R := he.mem (mem_idx.2 ⟨h0, h1⟩)
    have hiR : i ∈ R := (List.mem_append.1 hi).resolve_left hD
    have hnd0 : nd ≤ 0 := by
      rcases hfin with rfl | h
      · cases hiR
      · exact h
    have hbel := below_eq he (m := me ls i) (fun j hj => hB j hj i hiR)
    have hpos := (sumA_nonneg hls (G := R.filter fun j => decide (me ls j < me ls i)) (fun j hj => mem_idx.1 (he.symm.mem (List.mem_append_right _ (List.mem_filter.1 hj).1)))).1
    have hp0 : partOf ls need (me ls i) = 0 := by unfold partOf; omega
    unfold cutF
    rw [hp0, cut_zero]
end Go.Proofs.Ytppgppnkhpjlpaa
