/-
  PLAIN LAWS OF A FAIR CURTAILMENT: sums, bounds, proportion.
-/
import Derived.Test.YtbgaehajbjdifaaMcut
namespace Go.Proofs.Ytbgaehajbjdifaa
open Go.Vm Go.Vg
theorem ex_sort (key : Int → Int) (G : List Int) : ∃ P, Srt key P ∧ StE key G P := by
  induction h : G.length generalizing G with
  | zero => exact ⟨[], Srt.nil _, by rw [List.eq_nil_of_length_eq_zero h]; exact StE.refl _ _⟩
  | succ n ih =>
    obtain ⟨G', x, rfl⟩ := snoc_of G (by omega)
    obtain ⟨P, hs, he⟩ := ih G' (by simpa using h)
    refine ⟨P.filter (fun y => decide (key y ≤ key x)) ++ (x :: P.filter (fun y => decide (key x < key y))), ?_, ?_⟩
    · refine Srt.append (List.Pairwise.sublist List.filter_sublist hs) (List.pairwise_cons.2 ⟨fun y hy => ?_, List.Pairwise.sublist List.filter_sublist hs⟩) ?_
      · have := (List.mem_filter.1 hy).2; simp at this; omega
      · intro y hy z hz
        have h1 := (List.mem_filter.1 hy).2; simp at h1
        rcases List.mem_cons.1 hz with rfl | hz
        · exact h1
        · have h2 := (List.mem_filter.1 hz).2; simp at h2; omega
    · refine (StE.append he (StE.refl key [x])).trans fun k => ?_
      rw [List.filter_append, List.filter_append, show (x :: P.filter (fun y => decide (key x < key y))) = [x] ++ P.filter (fun y => decide (key x < key y)) from rfl, List.filter_append, List.filter_filter, List.filter_filter]
      by_cases hk : k ≤ key x
      · rw [List.filter_congr (q := fun y => key y == k) (p := fun y => key y == k && decide (key y ≤ key x)) (fun y _ => by by_cases h : key y = k <;> simp [h]; omega)]
        rw [show P.filter (fun y => key y == k && decide (key x < key y)) = [] from List.filter_eq_nil_iff.2 (fun y _ h => by simp at h; omega)]
        simp
      · rw [show P.filter (fun y => key y == k && decide (key y ≤ key x)) = [] from List.filter_eq_nil_iff.2 (fun y _ h => by simp at h; omega)]
        rw [List.filter_congr (q := fun y => key y == k) (p := fun y => key y == k && decide (key x < key y)) (fun y _ => by by_cases h : key y = k <;> simp [h]; omega)]
        rw [show [x].filter (fun y => key y == k) = [] from List.filter_eq_nil_iff.2 (fun y hy h => by simp at hy h; subst hy; omega)]
        simp
theorem sum_perm {a b : List Int} (h : a.Perm b) : a.sum = b.sum := by
  induction h with
  | nil => rfl
  | cons x _ ih => simp [ih]
  | swap x y l => simp; omega
  | trans _ _ h1 h2 => exact h1.trans h2
theorem sum_one (T : List Int) (f : Int → Int) (h : ∀ i ∈ T, f i = 1) : (T.map f).sum = T.length := by
  induction T with
  | nil => rfl
  | cons a T ih => rw [List.map_cons, List.sum_cons, h a (by simp), ih (fun i hi => h i (by simp [hi]))]; simp; omega
theorem sum_zero (T : List Int) (f : Int → Int) (h : ∀ i ∈ T, f i = 0) : (T.map f).sum = 0 := by
  induction T with
  | nil => rfl
  | cons a T ih => rw [List.map_cons, List.sum_cons, h a (by simp), ih (fun i hi => h i (by simp [hi]))]; rfl
theorem sum_add (T : List Int) (f g : Int → Int) : (T.map fun i => f i + g i).sum = (T.map f).sum + (T.map g).sum := by
  induction T with
  | nil => rfl
  | cons a T ih => simp only [List.map_cons, List.sum_cons, ih]; omega
theorem rank_eq (ls : List (Int × Int)) (G : List Int) (part S i : Int) : (G.filter fun j => decide (-(remF ls part S j) < -(remF ls part S i) ∨ (-(remF ls part S j) = -(remF ls part S i) ∧ j < i))).length = rankF ls G part S i := by
  unfold rankF
  congr 1
  apply List.filter_congr
  intro j _
  rw [decide_eq_decide]
  constructor <;> rintro (h | h) <;> omega
/-- the cuts of a group come to its part -/
theorem group_sum {ls : List (Int × Int)} {G : List Int} {part : Int} (hls : ∀ p ∈ ls, 0 ≤ p.1 ∧ p.1 ≤ 1048576) (hGr : ∀ i ∈ G, 0 ≤ i ∧ i < (ls.length : Int)) (hG : G.Pairwise (· < ·)) (hp : 0 ≤ part) (hpS : part ≤ sumA ls G) (hS : sumA ls G ≤ 33554432) : (G.map (cutG ls G part)).sum = part := by
  by_cases h0 : sumA ls G = 0
  · have : part = 0 := by omega
    subst this
    exact sum_zero _ _ fun i _ => cut_zero ls G i
  · obtain ⟨M, hM, hMG⟩ := div_missing (part := part) (amount := sumA ls G) hGr hls (by omega) (by omega) rfl hpS
    obtain ⟨P, hs, he⟩ := ex_sort (fun i => -(remF ls part (sumA ls G) i)) G
    have hperm : G.Perm P := he.perm
    have hPn : P.Nodup := hperm.nodup_iff.1 (nodup_of_asc hG)
    have e1 : G.map (cutG ls G part) = G.map fun i => qF ls part (sumA ls G) i + (if i ∈ P.take M then (1 : Int) else 0) := by
      apply List.map_congr_left
      intro i hi
      unfold cutG
      have hrk := rank_take hG hs he hi M
      rw [rank_eq] at hrk
      congr 1
      by_cases hc : i ∈ P.take M
      · rw [if_pos hc, if_pos (by have := hrk.1 hc; omega)]
      · rw [if_neg hc, if_neg (fun h => hc (hrk.2 (by omega)))]
    rw [e1, sum_add]
    have e2 : (G.map fun i => if i ∈ P.take M then (1 : Int) else 0).sum = M := by
      rw [sum_perm (hperm.map _)]
      have hsplit : P.map (fun i => if i ∈ P.take M then (1 : Int) else 0) = (P.take M).map (fun i => if i ∈ P.take M then (1 : Int) else 0) ++ (P.drop M).map (fun i => if i ∈ P.take M then (1 : Int) else 0) := by
        rw [← List.map_append, List.take_append_drop]
      rw [hsplit, List.sum_append, sum_one _ _ (fun i hi => if_pos hi), sum_zero _ _ (fun i hi => ?_)]
      · have := hperm.length_eq
        simp; omega
      · rw [← List.take_append_drop M P, List.nodup_append] at hPn
        exact if_neg fun h => hPn.2.2 i h i hi rfl
    rw [e2]
    unfold sumQ at hM
    omega
/-- one cut against its share -/
theorem one_cut {ls : List (Int × Int)} {G : List Int} {part i : Int} (hls : ∀ p ∈ ls, 0 ≤ p.1 ∧ p.1 ≤ 1048576) (hGr : ∀ i ∈ G, 0 ≤ i ∧ i < (ls.length : Int)) (hi : i ∈ G) (hp : 0 ≤ part) (hpS : part ≤ sumA ls G) (hS : 0 < sumA ls G) :
    (0 ≤ cutG ls G part i ∧ cutG ls G part i ≤ am ls i) ∧ cutG ls G part i * sumA ls G - part * am ls i < sumA ls G ∧ -(sumA ls G) < cutG ls G part i * sumA ls G - part * am ls i := by
  have hai : 0 ≤ am ls i := (hls _ (getD_mem _ _ (by have := hGr i hi; omega))).1
  have hai' := hai
  obtain ⟨S, hSe⟩ : ∃ S, S = sumA ls G := ⟨_, rfl⟩
  obtain ⟨a, hae⟩ : ∃ a, a = am ls i := ⟨_, rfl⟩
  obtain ⟨q, hqe⟩ : ∃ q, q = qF ls part S i := ⟨_, rfl⟩
  obtain ⟨r, hre⟩ : ∃ r, r = remF ls part S i := ⟨_, rfl⟩
  rw [← hSe] at hS hpS ⊢
  rw [← hae] at hai ⊢
  have hqr : S * q + r = part * a := by rw [hqe, hre, hae]; exact Int.mul_ediv_add_emod _ _
  have hr0 : 0 ≤ r := by rw [hre]; exact Int.emod_nonneg _ (by omega)
  have hr1 : r < S := by rw [hre]; exact Int.emod_lt_of_pos _ hS
  have hq0 : 0 ≤ q := by rw [hqe]; exact Int.ediv_nonneg (Int.mul_nonneg hp hai') (by omega)
  have hpa : part * a ≤ S * a := Int.mul_le_mul_of_nonneg_right hpS hai
  have hcut : cutG ls G part i = q + if (rankF ls G part S i : Int) < part - sumQ ls part S G then 1 else 0 := by unfold cutG; rw [← hSe, ← hqe]
  have hbon : (rankF ls G part S i : Int) < part - sumQ ls part S G → 0 < r := by
    intro hlt
    rcases Int.lt_or_eq_of_le hr0 with h | h0
    · exact h
    exfalso
    have h1 := sum_div ls part S G
    rw [← hSe] at h1
    have h2 : ∀ T : List Int, (T.map (remF ls part S)).sum ≤ S * ((T.filter fun j => decide (0 < remF ls part S j)).length : Int) := by
      intro T
      induction T with
      | nil => simp
      | cons j T ih =>
        have hj1 : remF ls part S j < S := Int.emod_lt_of_pos _ hS
        have hj0 : 0 ≤ remF ls part S j := Int.emod_nonneg _ (by omega)
        rw [List.map_cons, List.sum_cons, List.filter_cons]
        by_cases hj : 0 < remF ls part S j
        · rw [if_pos (by simpa using hj), List.length_cons]
          rw [show (((T.filter fun j => decide (0 < remF ls part S j)).length + 1 : Nat) : Int) = ((T.filter fun j => decide (0 < remF ls part S j)).length : Int) + 1 by omega, Int.mul_add]
          omega
        · rw [if_neg (by simpa using hj)]; omega
    have h3 := h2 G
    have h4 : (G.filter fun j => decide (0 < remF ls part S j)).length ≤ rankF ls G part S i := by
      unfold rankF
      rw [← List.countP_eq_length_filter, ← List.countP_eq_length_filter]
      apply List.countP_mono_left
      intro j _ hj
      simp only [decide_eq_true_eq] at hj ⊢
      left
      rw [← hre, ← h0]; exact hj
    have h5 : S * (part - sumQ ls part S G) ≤ S * (rankF ls G part S i : Int) := by
      have h6 : S * ((G.filter fun j => decide (0 < remF ls part S j)).length : Int) ≤ S * (rankF ls G part S i : Int) := Int.mul_le_mul_of_nonneg_left (by omega) (by omega)
      rw [Int.mul_sub, Int.mul_comm S part]
      omega
    have := Int.le_of_mul_le_mul_left h5 hS
    omega
  rw [hcut]
  have hSq : (q + 1) * S = S * q + S := by rw [Int.add_mul, Int.one_mul, Int.mul_comm]
  have hSq0 : (q + 0) * S = S * q := by rw [Int.add_zero, Int.mul_comm]
  have hle : ∀ x : Int, S * x ≤ S * a → x ≤ a := fun x hx => Int.le_of_mul_le_mul_left hx hS
  have hlt : ∀ x : Int, S * x < S * a → x < a := fun x hx => Int.lt_of_mul_lt_mul_left hx (by omega)
  split
  · next hb =>
    have hr := hbon hb
    have := hlt q (by omega)
    rw [hSq]
    omega
  · have := hle q (by omega)
    rw [hSq0]
    omega

/-- a sum over the indices below k of one key -/
def sm (f g : Int → Int) (m : Int) (k : Nat) : Int := (((idx k).filter fun i => g i == m).map f).sum
theorem sm_zero (f g : Int → Int) (m : Int) : sm f g m 0 = 0 := rfl
theorem sm_succ (f g : Int → Int) (m : Int) (k : Nat) : sm f g m (k + 1) = sm f g m k + if g k = m then f k else 0 := by
  unfold sm
  rw [idx_succ, List.filter_append, List.map_append, List.sum_append]
  congr 1
  by_cases h : g k = m <;> simp [h]
theorem sm_bd {f g : Int → Int} {m B : Int} {k : Nat} (hB : 0 ≤ B) (h : ∀ i, 0 ≤ i → i < (k : Int) → 0 ≤ f i ∧ f i ≤ B) : 0 ≤ sm f g m k ∧ sm f g m k ≤ B * k := by
  induction k with
  | zero => simp [sm_zero]
  | succ k ih =>
    have h1 := ih (fun i h0 h1 => h i h0 (by omega))
    have h2 := h k (by omega) (by omega)
    rw [sm_succ, show ((k + 1 : Nat) : Int) = (k : Int) + 1 by omega, Int.mul_add]
    split <;> omega
def vec3 (f g : Int → Int) (k : Nat) : List Int := [sm f g 0 k, sm f g 1 k, sm f g 2 k]
theorem vec3_zero (f g : Int → Int) : vec3 f g 0 = [0, 0, 0] := rfl
theorem vec3_at (f g : Int → Int) (k : Nat) {m : Int} (h0 : 0 ≤ m) (h1 : m < 3) : (vec3 f g k).getD m.toNat default = sm f g m k := by
  have : m = 0 ∨ m = 1 ∨ m = 2 := by omega
  rcases this with rfl | rfl | rfl <;> rfl
theorem vec3_set (f g : Int → Int) (k : Nat) {m x : Int} (hm : g k = m) (h0 : 0 ≤ m) (h1 : m < 3) (hx : x = sm f g m k + f k) : (vec3 f g k).set m.toNat x = vec3 f g (k + 1) := by
  subst hx
  have : m = 0 ∨ m = 1 ∨ m = 2 := by omega
  unfold vec3
  rcases this with rfl | rfl | rfl <;> simp [sm_succ, hm]
theorem grp_range {ls : List (Int × Int)} {m : Int} : ∀ i ∈ grp ls m, 0 ≤ i ∧ i < (ls.length : Int) := fun i hi => mem_idx.1 (List.mem_filter.1 hi).1
theorem grp_asc (ls : List (Int × Int)) (m : Int) : (grp ls m).Pairwise (· < ·) := List.Pairwise.sublist List.filter_sublist (idx_asc _)
theorem parts3 {ls : List (Int × Int)} (hm : ∀ p ∈ ls, 0 ≤ p.2 ∧ p.2 < 3) : below ls 0 = 0 ∧ below ls 1 = sumA ls (grp ls 0) ∧ below ls 2 = sumA ls (grp ls 0) + sumA ls (grp ls 1) ∧ sumP ls = sumA ls (grp ls 0) + sumA ls (grp ls 1) + sumA ls (grp ls 2) := by
  rw [← sumA_idx]
  unfold below grp
  have : ∀ T : List Int, (∀ i ∈ T, 0 ≤ i ∧ i < (ls.length : Int)) →
      sumA ls (T.filter fun i => decide (me ls i < 0)) = 0 ∧ sumA ls (T.filter fun i => decide (me ls i < 1)) = sumA ls (T.filter fun i => me ls i == 0) ∧ sumA ls (T.filter fun i => decide (me ls i < 2)) = sumA ls (T.filter fun i => me ls i == 0) + sumA ls (T.filter fun i => me ls i == 1) ∧ sumA ls T = sumA ls (T.filter fun i => me ls i == 0) + sumA ls (T.filter fun i => me ls i == 1) + sumA ls (T.filter fun i => me ls i == 2) := by
    intro T hT
    induction T with
    | nil => simp [sumA]
    | cons j T ih =>
      obtain ⟨h1, h2, h3, h4⟩ := ih (fun i hi => hT i (by simp [hi]))
      have hj := hT j (by simp)
      have hmj : 0 ≤ me ls j ∧ me ls j < 3 := hm _ (getD_mem _ _ (by omega))
      have hc : ∀ U : List Int, sumA ls (j :: U) = am ls j + sumA ls U := fun U => rfl
      have : me ls j = 0 ∨ me ls j = 1 ∨ me ls j = 2 := by omega
      rcases this with h | h | h <;> simp only [List.filter_cons, h] <;> simp [hc] <;> omega
  exact this _ fun i hi => mem_idx.1 hi
theorem sm_am (ls : List (Int × Int)) (m : Int) : sm (am ls) (me ls) m ls.length = sumA ls (grp ls m) := rfl
theorem sm_cut {ls : List (Int × Int)} {need m : Int} (hls : ∀ p ∈ ls, 0 ≤ p.1 ∧ p.1 ≤ 1048576) (hn : ls.length ≤ 32) : sm (cutF ls need) (me ls) m ls.length = partOf ls need m := by
  have hb := sumA_nonneg hls (G := grp ls m) grp_range
  have hl : (grp ls m).length ≤ 32 := by have := List.length_filter_le (fun i => me ls i == m) (idx ls.length); rw [length_idx] at this; unfold grp; omega
  have e : (grp ls m).map (cutF ls need) = (grp ls m).map (cutG ls (grp ls m) (partOf ls need m)) := by
    apply List.map_congr_left
    intro i hi
    have := (List.mem_filter.1 hi).2
    rw [beq_iff_eq] at this
    unfold cutF
    rw [this]
  show ((grp ls m).map (cutF ls need)).sum = _
  rw [e]
  exact group_sum hls grp_range (grp_asc _ _) (by unfold partOf; omega) (by unfold partOf; omega) (by omega)
def sumC (f : Int → Int) (k : Nat) : Int := ((idx k).map f).sum
theorem sumC_succ (f : Int → Int) (k : Nat) : sumC f (k + 1) = sumC f k + f k := by simp [sumC, idx_succ]
theorem sumC_sm {f g : Int → Int} {k : Nat} (h : ∀ i, 0 ≤ i → i < (k : Int) → 0 ≤ g i ∧ g i < 3) : sumC f k = sm f g 0 k + sm f g 1 k + sm f g 2 k := by
  induction k with
  | zero => rfl
  | succ k ih =>
    have h1 := h k (by omega) (by omega)
    rw [sumC_succ, sm_succ, sm_succ, sm_succ, ih (fun i h0 h1 => h i h0 (by omega))]
    have : g k = 0 ∨ g k = 1 ∨ g k = 2 := by omega
    rcases this with h | h | h <;> simp [h] <;> omega
theorem curtF_at {ls : List (Int × Int)} {need : Int} {k : Nat} (hk : k < ls.length) : (curtF ls need).getD k default = cutF ls need k := by
  simp [curtF, idx, hk]
theorem length_curtF (ls : List (Int × Int)) (need : Int) : (curtF ls need).length = ls.length := by simp [curtF, idx]
/-- the law -/
theorem fair_main {ls : List (Int × Int)} {need : Int} (hls : ∀ p ∈ ls, 0 ≤ p.1 ∧ p.1 ≤ 29) (hm : ∀ p ∈ ls, 0 ≤ p.2 ∧ p.2 < 3) (hn : ls.length ≤ 32) (h0 : 0 ≤ need) (h1 : need ≤ sumP ls) :
    (∀ i, 0 ≤ i → i < (ls.length : Int) → 0 ≤ cutF ls need i ∧ cutF ls need i ≤ am ls i) ∧
    (∀ u v, 0 ≤ v → v < u → u < 3 → 0 < sm (cutF ls need) (me ls) u ls.length → sm (cutF ls need) (me ls) v ls.length = sm (am ls) (me ls) v ls.length) ∧
    (∀ i, 0 ≤ i → i < (ls.length : Int) → 0 < sm (am ls) (me ls) (me ls i) ls.length → cutF ls need i * sm (am ls) (me ls) (me ls i) ls.length - sm (cutF ls need) (me ls) (me ls i) ls.length * am ls i < sm (am ls) (me ls) (me ls i) ls.length ∧ -(sm (am ls) (me ls) (me ls i) ls.length) < cutF ls need i * sm (am ls) (me ls) (me ls i) ls.length - sm (cutF ls need) (me ls) (me ls i) ls.length * am ls i) ∧
    sumC (cutF ls need) ls.length = need := by
  have hls2 : ∀ p ∈ ls, 0 ≤ p.1 ∧ p.1 ≤ 1048576 := fun p hp => by have := hls p hp; omega
  have hmi : ∀ i, 0 ≤ i → i < (ls.length : Int) → 0 ≤ me ls i ∧ me ls i < 3 := fun i h0 h1 => hm _ (getD_mem _ _ (by omega))
  obtain ⟨b0, b1, b2, bs⟩ := parts3 hm
  have a0 := (sumA_nonneg hls2 (G := grp ls 0) grp_range).1
  have a1 := (sumA_nonneg hls2 (G := grp ls 1) grp_range).1
  have a2 := (sumA_nonneg hls2 (G := grp ls 2) grp_range).1
  have hg : ∀ i, 0 ≤ i → i < (ls.length : Int) → i ∈ grp ls (me ls i) := fun i h0 h1 => List.mem_filter.2 ⟨mem_idx.2 ⟨h0, h1⟩, by simp⟩
  have hpart : ∀ m, 0 ≤ partOf ls need m ∧ (0 ≤ sumA ls (grp ls m) → partOf ls need m ≤ sumA ls (grp ls m)) := fun m => by unfold partOf; omega
  refine ⟨fun i hi0 hi1 => ?_, fun u v hv huv hu hpos => ?_, fun i hi0 hi1 hpos => ?_, ?_⟩
  · have hS := (sumA_nonneg hls2 (G := grp ls (me ls i)) grp_range).1
    have hp := hpart (me ls i)
    by_cases hz : sumA ls (grp ls (me ls i)) = 0
    · have : partOf ls need (me ls i) = 0 := by have := hp.2 hS; omega
      unfold cutF
      rw [this, cut_zero]
      exact ⟨by omega, (hls2 _ (getD_mem _ _ (by omega))).1⟩
    · exact (one_cut hls2 grp_range (hg i hi0 hi1) hp.1 (hp.2 hS) (by omega)).1
  · rw [sm_cut hls2 hn] at hpos ⊢
    rw [sm_am]
    have hu3 : (u = 1 ∧ v = 0) ∨ (u = 2 ∧ v = 0) ∨ (u = 2 ∧ v = 1) := by omega
    unfold partOf at hpos ⊢
    rcases hu3 with ⟨rfl, rfl⟩ | ⟨rfl, rfl⟩ | ⟨rfl, rfl⟩ <;> omega
  · rw [sm_am] at hpos ⊢
    rw [sm_cut hls2 hn]
    have hS := (sumA_nonneg hls2 (G := grp ls (me ls i)) grp_range).1
    have hp := hpart (me ls i)
    exact (one_cut hls2 grp_range (hg i hi0 hi1) hp.1 (hp.2 hS) hpos).2
  · rw [sumC_sm (g := me ls) hmi, sm_cut hls2 hn, sm_cut hls2 hn, sm_cut hls2 hn]
    unfold partOf
    omega
end Go.Proofs.Ytbgaehajbjdifaa
