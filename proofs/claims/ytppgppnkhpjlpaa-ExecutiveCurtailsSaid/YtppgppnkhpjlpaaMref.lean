/-
  PLAIN LAWS: what the reference's division by greatest parts gives is what the program's gives.
-/
import Derived.Test.YtppgppnkhpjlpaaMcut
import Derived.Test.YtppgppnkhpjlpaaMsel
namespace Go.Proofs.Ytppgppnkhpjlpaa
open Go.Vm Go.Vg
def partL (ls : List (Int × Int)) (m cut : Int) : List Rat := (List.range ls.length).map fun (i : Nat) => if me ls i = m then ((cut * am ls i : Int) : Rat) / ((sumA ls (grp ls m) : Int) : Rat) else 0
theorem length_partL (ls : List (Int × Int)) (m cut : Int) : (partL ls m cut).length = ls.length := by simp [partL]
theorem partL_at {ls : List (Int × Int)} {m cut : Int} {i : Nat} (hi : i < ls.length) : (partL ls m cut).getD i default = if me ls i = m then ((cut * am ls i : Int) : Rat) / ((sumA ls (grp ls m) : Int) : Rat) else 0 := by
  simp [partL, hi]
theorem floor_div {a b : Int} (hb : 0 < b) : ((a : Rat) / (b : Rat)).floor = a / b := by
  have e : ((a : Rat) / (b : Rat)) = ((a / b : Int) : Rat) + ((a % b : Int) : Rat) / (b : Rat) := by
    have hb' : (b : Rat) ≠ 0 := fun h => by have := (Rat.intCast_eq_zero_iff).1 h; omega
    have h : ((a : Int) : Rat) = (b : Rat) * ((a / b : Int) : Rat) + ((a % b : Int) : Rat) := by
      rw [← Rat.intCast_mul, ← Rat.intCast_add, Int.mul_ediv_add_emod]
    rw [h]
    grind
  have hb0 : (0 : Rat) < (b : Rat) := Rat.intCast_lt_intCast (a := 0).2 hb
  have h1 : (0 : Rat) ≤ ((a % b : Int) : Rat) := Rat.intCast_le_intCast (a := 0).2 (Int.emod_nonneg _ (by omega))
  have h2 : ((a % b : Int) : Rat) < (b : Rat) := Rat.intCast_lt_intCast.2 (Int.emod_lt_of_pos _ hb)
  have h3 : 0 ≤ ((a % b : Int) : Rat) / (b : Rat) := by
    rw [Rat.div_def]; exact Rat.mul_nonneg h1 (Rat.le_of_lt (Rat.inv_pos.2 hb0))
  have h4 : ((a % b : Int) : Rat) / (b : Rat) < 1 := (Rat.div_lt_iff hb0).2 (by rw [Rat.one_mul]; exact h2)
  have h5 : (a / b) ≤ ((a : Rat) / (b : Rat)).floor := Rat.le_floor_iff.2 (by rw [e]; grind)
  have h6 : ((a : Rat) / (b : Rat)).floor < a / b + 1 := Rat.intCast_lt_intCast.1 (by
    have := Rat.floor_le ((a : Rat) / (b : Rat))
    rw [Rat.intCast_add]
    rw [e] at this ⊢
    grind)
  omega
theorem fr_div {a b : Int} (hb : 0 < b) : fr ((a : Rat) / (b : Rat)) = ((a % b : Int) : Rat) / (b : Rat) := by
  unfold fr
  rw [floor_div hb]
  have hb' : (b : Rat) ≠ 0 := fun h => by have := (Rat.intCast_eq_zero_iff).1 h; omega
  have h : ((a : Int) : Rat) = (b : Rat) * ((a / b : Int) : Rat) + ((a % b : Int) : Rat) := by
    rw [← Rat.intCast_mul, ← Rat.intCast_add, Int.mul_ediv_add_emod]
  rw [h]
  grind
theorem fr_lt_iff {a c b : Int} (hb : 0 < b) : ((a : Int) : Rat) / (b : Rat) < ((c : Int) : Rat) / (b : Rat) ↔ a < c := by
  have hb0 : (0 : Rat) < (b : Rat) := Rat.intCast_lt_intCast (a := 0).2 hb
  rw [Rat.div_lt_iff hb0, Rat.div_mul_cancel (Rat.ne_of_gt hb0)]
  exact Rat.intCast_lt_intCast
theorem fr_eq_iff {a c b : Int} (hb : 0 < b) : ((a : Int) : Rat) / (b : Rat) = ((c : Int) : Rat) / (b : Rat) ↔ a = c := by
  constructor
  · intro h
    rcases Int.lt_trichotomy a c with h1 | h1 | h1
    · have := (fr_lt_iff hb).2 h1; grind
    · exact h1
    · have := (fr_lt_iff hb).2 h1; grind
  · intro h; rw [h]
theorem zero_div' (b : Rat) : (0 : Rat) / b = 0 := by rw [Rat.div_def, Rat.zero_mul]

/-- the group as a part of the range -/
def gN' (ls : List (Int × Int)) (m : Int) (n : Nat) : List Nat := (List.range n).filter fun j : Nat => me ls j == m
theorem grp_map (ls : List (Int × Int)) (m : Int) (n : Nat) : ((idx n).filter fun i => me ls i == m) = (gN' ls m n).map fun k : Nat => (k : Int) := by
  unfold idx gN'
  rw [List.filter_map]
  rfl
theorem gN_succ (ls : List (Int × Int)) (m : Int) (n : Nat) : gN' ls m (n + 1) = gN' ls m n ++ if me ls n = m then [n] else [] := by
  unfold gN'
  rw [List.range_succ, List.filter_append]
  congr 1
  by_cases h : me ls n = m <;> simp [h]
theorem part_take {ls : List (Int × Int)} {m cut : Int} {k : Nat} (hk : k < ls.length) : (partL ls m cut).take (k + 1) = (partL ls m cut).take k ++ [(partL ls m cut).getD k default] := by
  rw [List.take_succ_eq_append_getElem (by rw [length_partL]; exact hk)]
  congr 2
  simp [List.getD_eq_getElem?_getD, length_partL, hk]
theorem part_sums {ls : List (Int × Int)} {m cut S : Int} (hS : S = sumA ls (grp ls m)) (h0 : 0 < S) : ∀ k, k ≤ ls.length →
    rsum ((partL ls m cut).take k) = ((cut * sumA ls ((gN' ls m k).map fun k : Nat => (k : Int)) : Int) : Rat) / (S : Rat) ∧ flsum ((partL ls m cut).take k) = sumQ ls cut S ((gN' ls m k).map fun k : Nat => (k : Int)) := by
  have hS0 : (S : Rat) ≠ 0 := fun h => by have := (Rat.intCast_eq_zero_iff).1 h; omega
  intro k
  induction k with
  | zero => intro _; constructor <;> simp [gN', sumA, sumQ, flsum, rsum, zero_div']
  | succ k ih =>
    intro hk
    obtain ⟨h1, h2⟩ := ih (by omega)
    rw [part_take (by omega), rsum_snoc, flsum_snoc, h1, h2, partL_at (by omega), gN_succ, ← hS]
    by_cases hm : me ls k = m
    · rw [if_pos hm, if_pos hm, List.map_append, sumA_append, floor_div h0]
      constructor
      · rw [Int.mul_add, Rat.intCast_add]
        have e : sumA ls (List.map (fun k : Nat => (k : Int)) [k]) = am ls k := by simp [sumA, am]
        rw [e]
        grind
      · simp [sumQ, qF, am]
    · rw [if_neg hm, if_neg hm, List.append_nil]
      refine ⟨by grind, ?_⟩
      have : (0 : Rat).floor = 0 := rfl
      omega
/-- how many have a part left -/
def posN (ls : List (Int × Int)) (m cut S : Int) (n : Nat) : Nat := ((gN' ls m n).filter fun j => decide (0 < remF ls cut S (j : Nat))).length
theorem rem_pos {ls : List (Int × Int)} {m cut S : Int} (h0 : 0 < S) (G : List Nat) : ((G.map fun k : Nat => (k : Int)).map (remF ls cut S)).sum ≤ S * ((G.filter fun j => decide (0 < remF ls cut S (j : Nat))).length : Nat) := by
  induction G with
  | nil => simp
  | cons g G ih =>
    have h1 : 0 ≤ remF ls cut S g := Int.emod_nonneg _ (by omega)
    have h2 : remF ls cut S g < S := Int.emod_lt_of_pos _ h0
    simp only [List.map_cons, List.sum_cons, List.filter_cons]
    by_cases hp : 0 < remF ls cut S g
    · rw [decide_eq_true hp, if_pos rfl, List.length_cons, Int.natCast_add, Int.mul_add]
      omega
    · rw [decide_eq_false hp, if_neg (by simp)]
      omega
theorem miss_pos {ls : List (Int × Int)} {m cut S : Int} (hS : S = sumA ls (grp ls m)) (h0 : 0 < S) : cut - sumQ ls cut S (grp ls m) ≤ posN ls m cut S ls.length := by
  have h1 := sum_div ls cut S (grp ls m)
  rw [← hS] at h1
  have h2 := rem_pos (ls := ls) (m := m) (cut := cut) h0 (gN' ls m ls.length)
  rw [← grp_map] at h2
  change ((grp ls m).map (remF ls cut S)).sum ≤ S * (posN ls m cut S ls.length : Nat) at h2
  generalize ((grp ls m).map (remF ls cut S)).sum = r at *
  generalize sumQ ls cut S (grp ls m) = q at *
  generalize (posN ls m cut S ls.length : Nat) = p at *
  have h3 : S * (cut - q) ≤ S * (p : Int) := by rw [Int.mul_sub, Int.mul_comm S cut]; omega
  exact Int.le_of_mul_le_mul_left h3 h0
section
variable {ls : List (Int × Int)} {m cut S : Int}
theorem P_at (hS : S = sumA ls (grp ls m)) (h0 : 0 < S) {j : Nat} (hj : j < ls.length) : fr ((partL ls m cut).getD j default) = if me ls j = m then ((remF ls cut S j : Int) : Rat) / (S : Rat) else 0 := by
  rw [partL_at hj, ← hS]
  split
  · rw [fr_div h0]; rfl
  · have : (0 : Rat).floor = 0 := rfl
    unfold fr; rw [this]; grind
theorem pos_le_rk (hS : S = sumA ls (grp ls m)) (h0 : 0 < S) {i : Nat} (hz : fr ((partL ls m cut).getD i default) = 0) : posN ls m cut S ls.length ≤ rk (fun j => fr ((partL ls m cut).getD j default)) ls.length i := by
  unfold posN rk gN'
  rw [List.filter_filter]
  refine sub_len (List.nodup_range.filter _) fun x hx => ?_
  obtain ⟨hx1, hx2⟩ := List.mem_filter.1 hx
  rw [Bool.and_eq_true, decide_eq_true_eq, beq_iff_eq] at hx2
  refine List.mem_filter.2 ⟨hx1, decide_eq_true (.inl ?_)⟩
  show fr ((partL ls m cut).getD i default) < fr ((partL ls m cut).getD x default)
  rw [hz, P_at hS h0 (List.mem_range.1 hx1), if_pos hx2.2]
  have := (fr_lt_iff (a := 0) (c := remF ls cut S x) h0).2 hx2.1
  rw [show ((0 : Int) : Rat) = 0 from rfl, zero_div'] at this
  exact this
theorem rank_grp (hS : S = sumA ls (grp ls m)) (h0 : 0 < S) {i : Nat} (hi : i < ls.length) (hm : me ls i = m) :
    (rk (fun j => fr ((partL ls m cut).getD j default)) ls.length i : Int) < cut - sumQ ls cut S (grp ls m) ↔ (rankF ls (grp ls m) cut S i : Int) < cut - sumQ ls cut S (grp ls m) := by
  have hK := miss_pos (cut := cut) hS h0
  have hr0 : 0 ≤ remF ls cut S i := Int.emod_nonneg _ (by omega)
  have hPi := P_at (cut := cut) hS h0 hi
  rw [if_pos hm] at hPi
  by_cases hz : remF ls cut S i = 0
  · have h1 := pos_le_rk (i := i) (cut := cut) hS h0 (by rw [hPi, hz, show ((0 : Int) : Rat) = 0 from rfl, zero_div'])
    have h2 : posN ls m cut S ls.length ≤ rankF ls (grp ls m) cut S i := by
      unfold rankF
      unfold grp
      rw [grp_map, List.filter_map, List.length_map]
      unfold posN
      refine sub_len ((List.nodup_range.filter _).filter _) fun x hx => ?_
      obtain ⟨hx1, hx2⟩ := List.mem_filter.1 hx
      refine List.mem_filter.2 ⟨hx1, ?_⟩
      have := of_decide_eq_true hx2
      simp only [Function.comp]
      exact decide_eq_true (.inl (by rw [hz]; exact this))
    omega
  · have e : rk (fun j => fr ((partL ls m cut).getD j default)) ls.length i = rankF ls (grp ls m) cut S i := by
      unfold rk rankF
      unfold grp
      rw [grp_map, List.filter_map, List.length_map]
      unfold gN'
      rw [List.filter_filter]
      congr 1
      refine List.filter_congr fun x hx => ?_
      have hx' := List.mem_range.1 hx
      have hPx := P_at (cut := cut) hS h0 hx'
      have hbef : bef (fun j => fr ((partL ls m cut).getD j default)) x i ↔ (remF ls cut S i < remF ls cut S x ∨ remF ls cut S x = remF ls cut S i ∧ x < i) ∧ me ls x = m := by
        unfold bef
        simp only [hPi, hPx]
        by_cases hmx : me ls x = m
        · simp only [hmx, if_true, fr_lt_iff h0, fr_eq_iff h0, and_true]
        · simp only [hmx, if_false, and_false, iff_false]
          have hp := (fr_lt_iff (a := 0) (c := remF ls cut S i) h0).2 (by omega)
          rw [show ((0 : Int) : Rat) = 0 from rfl, zero_div'] at hp
          rintro (h | ⟨h, _⟩)
          · grind
          · grind
      simp only [Function.comp]
      by_cases hb : bef (fun j => fr ((partL ls m cut).getD j default)) x i
      · rw [decide_eq_true hb]
        obtain ⟨h1, h2⟩ := hbef.1 hb
        rw [decide_eq_true (by rcases h1 with h1 | h1; exact .inl h1; exact .inr ⟨h1.1, by omega⟩)]
        simp [h2]
      · rw [decide_eq_false hb]
        symm
        rw [Bool.and_eq_false_iff]
        by_cases hmx : me ls x = m
        · left
          refine decide_eq_false fun h => hb (hbef.2 ⟨?_, hmx⟩)
          rcases h with h | h
          · exact .inl h
          · exact .inr ⟨h.1, by omega⟩
        · right
          simpa using hmx
    rw [e]
/-- what the reference gives a load in one round -/
theorem app_cut (hS : S = sumA ls (grp ls m)) (hS0 : 0 ≤ S) (hc0 : 0 ≤ cut) (hcS : cut ≤ S) {i : Nat} (hi : i < ls.length) :
    rsum (partL ls m cut) = (cut : Rat) ∧ appF (partL ls m cut) cut i = if me ls i = m then cutG ls (grp ls m) cut i else 0 := by
  by_cases h0 : 0 < S
  · obtain ⟨h1, h2⟩ := part_sums (cut := cut) hS h0 ls.length (Nat.le_refl _)
    rw [← grp_map] at h1 h2
    change rsum ((partL ls m cut).take ls.length) = ((cut * sumA ls (grp ls m) : Int) : Rat) / (S : Rat) at h1
    change _ = sumQ ls cut S (grp ls m) at h2
    rw [List.take_of_length_le (by rw [length_partL]; exact Nat.le_refl _)] at h1 h2
    have hS1 : (S : Rat) ≠ 0 := fun h => by have := (Rat.intCast_eq_zero_iff).1 h; omega
    refine ⟨by rw [h1, ← hS, Rat.intCast_mul]; grind, ?_⟩
    unfold appF
    rw [h2, length_partL, partL_at hi, ← hS]
    by_cases hm : me ls i = m
    · rw [if_pos hm, if_pos hm, floor_div h0]
      unfold cutG
      rw [← hS]
      have e : cut * am ls i / S = qF ls cut S i := rfl
      rw [e]
      congr 1
      simp only [rank_grp hS h0 hi hm]
    · rw [if_neg hm, if_neg hm]
      have hz : fr ((partL ls m cut).getD i default) = 0 := by rw [P_at hS h0 hi, if_neg hm]
      have h3 := pos_le_rk (cut := cut) hS h0 hz
      have h4 := miss_pos (cut := cut) hS h0
      have : (0 : Rat).floor = 0 := rfl
      rw [this, if_neg (by omega)]
      rfl
  · have hS' : S = 0 := by omega
    have hcut : cut = 0 := by omega
    have hall : ∀ j, (partL ls m cut).getD j default = 0 := fun j => by
      by_cases hj : j < ls.length
      · rw [partL_at hj, hcut]
        split
        · rw [Int.zero_mul, show ((0 : Int) : Rat) = 0 from rfl, zero_div']
        · rfl
      · rw [List.getD_eq_getElem?_getD, List.getElem?_eq_none (show (partL ls m cut).length ≤ j by rw [length_partL]; omega)]; rfl
    have hrep : partL ls m cut = List.replicate ls.length 0 := by
      apply List.ext_getElem
      · simp [length_partL]
      · intro j h1 h2
        have := hall j
        simp only [List.getD_eq_getElem?_getD, List.getElem?_eq_getElem h1, Option.getD_some] at this
        simp [this]
    have hs : ∀ n : Nat, rsum (List.replicate n 0) = 0 ∧ flsum (List.replicate n 0) = 0 := by
      intro n
      induction n with
      | zero => exact ⟨rfl, rfl⟩
      | succ n ih =>
        rw [List.replicate_succ', rsum_snoc, flsum_snoc, ih.1, ih.2]
        exact ⟨by grind, rfl⟩
    refine ⟨by rw [hrep, (hs _).1, hcut]; rfl, ?_⟩
    unfold appF
    rw [hall i, show flsum (partL ls m cut) = 0 by rw [hrep]; exact (hs _).2]
    have : (0 : Rat).floor = 0 := rfl
    rw [this, hcut, if_neg (by omega), cut_zero]
    split <;> rfl
end
end Go.Proofs.Ytppgppnkhpjlpaa
