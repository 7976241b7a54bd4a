/-
  PLAIN LAWS of picking the greatest parts one after the other; no program in sight.
-/
import Derived.Test.YtppgppnkhpjlpaaMrat
namespace Go.Vm
theorem sub_len {α : Type} [DecidableEq α] : ∀ {a b : List α}, a.Nodup → (∀ x ∈ a, x ∈ b) → a.length ≤ b.length
  | [], _, _, _ => Nat.zero_le _
  | x :: t, b, hn, hs => by
    have hx : x ∈ b := hs x (List.mem_cons_self ..)
    have hn' := List.nodup_cons.1 hn
    have h := sub_len (a := t) (b := b.erase x) hn'.2 fun y hy => (List.mem_erase_of_ne (fun e => hn'.1 (by rw [← e]; exact hy))).2 (hs y (List.mem_cons_of_mem _ hy))
    rw [List.length_erase_of_mem hx] at h
    have : 0 < b.length := List.length_pos_of_mem hx
    simp only [List.length_cons]
    omega
theorem snocInd {α : Type} {p : List α → Prop} (h0 : p []) (h1 : ∀ l x, p l → p (l ++ [x])) : ∀ l, p l := by
  intro l
  rw [← l.reverse_reverse]
  induction l.reverse with
  | nil => exact h0
  | cons x t ih => rw [List.reverse_cons]; exact h1 _ _ ih
/-- j is before i: it has the greater part, or the same one and the lesser index -/
def bef (P : Nat → Rat) (j i : Nat) : Prop := P i < P j ∨ (P j = P i ∧ j < i)
instance (P : Nat → Rat) (j i : Nat) : Decidable (bef P j i) := inferInstanceAs (Decidable (_ ∨ _))
theorem bef_asymm {P : Nat → Rat} {i j : Nat} (h : bef P i j) (k : bef P j i) : False := by
  unfold bef at *
  grind
theorem bef_trans {P : Nat → Rat} {i j l : Nat} (h : bef P i j) (k : bef P j l) : bef P i l := by
  unfold bef at *
  grind
def rk (P : Nat → Rat) (n i : Nat) : Nat := ((List.range n).filter fun j => decide (bef P j i)).length
/-- the k first -/
def Seg (P : Nat → Rat) (n : Nat) (M : List Nat) : Prop := M.Nodup ∧ (∀ i ∈ M, i < n) ∧ ∀ i ∈ M, ∀ j, j < n → j ∉ M → bef P i j
theorem Seg.nil (P : Nat → Rat) (n : Nat) : Seg P n [] := ⟨List.nodup_nil, by simp, by simp⟩
theorem Seg.ex {P : Nat → Rat} {n : Nat} {M : List Nat} (_h : Seg P n M) (hl : M.length < n) : ∃ i, i < n ∧ i ∉ M := by
  by_cases hx : ∃ i, i < n ∧ i ∉ M
  · exact hx
  · exfalso
    have := sub_len (a := List.range n) (b := M) List.nodup_range fun x hx' => by
      by_cases hm : x ∈ M
      · exact hm
      · exact absurd ⟨x, List.mem_range.1 hx', hm⟩ hx
    rw [List.length_range] at this
    omega
theorem Seg.snoc {P : Nat → Rat} {n b : Nat} {M : List Nat} (h : Seg P n M) (hb : b < n) (hm : b ∉ M) (hf : ∀ j, j < n → j ∉ M → j ≠ b → bef P b j) : Seg P n (M ++ [b]) := by
  refine ⟨?_, ?_, ?_⟩
  · rw [List.nodup_append]
    refine ⟨h.1, by simp, fun a ha c hc => ?_⟩
    rw [List.mem_singleton] at hc
    intro e; subst e; subst hc; exact hm ha
  · intro i hi
    rcases List.mem_append.1 hi with hi | hi
    · exact h.2.1 i hi
    · rw [List.mem_singleton] at hi; omega
  · intro i hi j hj hn
    have hn1 : j ∉ M := fun e => hn (List.mem_append.2 (.inl e))
    have hn2 : j ≠ b := fun e => hn (List.mem_append.2 (.inr (by rw [e]; simp)))
    rcases List.mem_append.1 hi with hi | hi
    · exact h.2.2 i hi j hj hn1
    · rw [List.mem_singleton] at hi; subst hi; exact hf j hj hn1 hn2
theorem Seg.rank {P : Nat → Rat} {n i : Nat} {M : List Nat} (h : Seg P n M) (hi : i < n) : i ∈ M ↔ rk P n i < M.length := by
  constructor
  · intro hm
    have hs := sub_len (a := (List.range n).filter fun j => decide (bef P j i)) (b := M.erase i) (List.nodup_range.filter _) fun x hx => by
      obtain ⟨hx1, hx2⟩ := List.mem_filter.1 hx
      have hx3 : bef P x i := of_decide_eq_true hx2
      have hne : x ≠ i := fun e => by subst e; exact bef_asymm hx3 hx3
      refine (List.mem_erase_of_ne hne).2 ?_
      by_cases hxm : x ∈ M
      · exact hxm
      · exact (bef_asymm hx3 (h.2.2 i hm x (List.mem_range.1 hx1) hxm)).elim
    rw [List.length_erase_of_mem hm] at hs
    have : 0 < M.length := List.length_pos_of_mem hm
    unfold rk
    omega
  · intro hr
    by_cases hm : i ∈ M
    · exact hm
    · exfalso
      have hs := sub_len (a := M) (b := (List.range n).filter fun j => decide (bef P j i)) h.1 fun x hx =>
        List.mem_filter.2 ⟨List.mem_range.2 (h.2.1 x hx), decide_eq_true (h.2.2 x hx i hi hm)⟩
      unfold rk at hr
      omega
/-- the search for the first of those that are left: behind k of them -/
def Best (P : Nat → Rat) (M : List Nat) (k : Nat) (b : Int) : Prop := (b = -1 ∧ ∀ j, j < k → j ∈ M) ∨ ∃ c : Nat, b = (c : Int) ∧ c < k ∧ c ∉ M ∧ ∀ j, j < k → j ∉ M → j ≠ c → bef P c j
theorem Best.zero (P : Nat → Rat) (M : List Nat) : Best P M 0 (-1) := .inl ⟨rfl, fun _ h => absurd h (Nat.not_lt_zero _)⟩
theorem Best.skip {P : Nat → Rat} {M : List Nat} {k : Nat} {b : Int} (h : Best P M k b) (hk : k ∈ M) : Best P M (k + 1) b := by
  rcases h with ⟨h1, h2⟩ | ⟨c, h1, h2, h3, h4⟩
  · exact .inl ⟨h1, fun j hj => by rcases Nat.lt_or_eq_of_le (Nat.le_of_lt_succ hj) with h | rfl; exact h2 j h; exact hk⟩
  · exact .inr ⟨c, h1, by omega, h3, fun j hj hn hc => by
      rcases Nat.lt_or_eq_of_le (Nat.le_of_lt_succ hj) with h | rfl
      · exact h4 j h hn hc
      · exact absurd hk hn⟩
theorem Best.keep {P : Nat → Rat} {M : List Nat} {k c : Nat} (h : Best P M k (c : Int)) (hp : ¬ P c < P k) : Best P M (k + 1) (c : Int) := by
  rcases h with ⟨h1, h2⟩ | ⟨c', h1, h2, h3, h4⟩
  · omega
  · have e : c = c' := by omega
    subst e
    refine .inr ⟨c, rfl, by omega, h3, fun j hj hn hc => ?_⟩
    rcases Nat.lt_or_eq_of_le (Nat.le_of_lt_succ hj) with h | rfl
    · exact h4 j h hn hc
    · unfold bef; grind
theorem Best.take {P : Nat → Rat} {M : List Nat} {k : Nat} {b : Int} (h : Best P M k b) (hk : k ∉ M) (hp : b = -1 ∨ P b.toNat < P k) : Best P M (k + 1) (k : Int) := by
  refine .inr ⟨k, rfl, by omega, hk, fun j hj hn hc => ?_⟩
  have hj' : j < k := by omega
  rcases h with ⟨h1, h2⟩ | ⟨c, h1, h2, h3, h4⟩
  · exact absurd (h2 j hj') hn
  · have hp' : P c < P k := by
      rcases hp with hp | hp
      · omega
      · rw [h1, Int.toNat_natCast] at hp; exact hp
    by_cases e : j = c
    · subst e; exact .inl hp'
    · have := h4 j hj' hn e
      unfold bef at *; grind
theorem Best.fin {P : Nat → Rat} {M : List Nat} {n : Nat} {b : Int} (h : Best P M n b) (hs : Seg P n M) (hl : M.length < n) : ∃ c : Nat, b = (c : Int) ∧ c < n ∧ c ∉ M ∧ Seg P n (M ++ [c]) := by
  obtain ⟨i, hi, hm⟩ := hs.ex hl
  rcases h with ⟨h1, h2⟩ | ⟨c, h1, h2, h3, h4⟩
  · exact absurd (h2 i hi) hm
  · exact ⟨c, h1, h2, h3, hs.snoc h2 h3 h4⟩

/-- sums of fractions -/
def rsum (l : List Rat) : Rat := l.foldl (· + ·) 0
theorem rsum_snoc (l : List Rat) (x : Rat) : rsum (l ++ [x]) = rsum l + x := by simp [rsum]
theorem rsum_nil : rsum [] = 0 := rfl
def fr (q : Rat) : Rat := q - (q.floor : Rat)
theorem fr_nonneg (q : Rat) : 0 ≤ fr q := by
  have := Rat.floor_le q
  unfold fr; grind
theorem fr_lt (q : Rat) : fr q < 1 := by
  have := Rat.lt_floor_add_one q
  unfold fr
  rw [Rat.intCast_add] at this
  grind
def flsum (l : List Rat) : Int := (l.map Rat.floor).sum
theorem flsum_snoc (l : List Rat) (x : Rat) : flsum (l ++ [x]) = flsum l + x.floor := by simp [flsum]
theorem missing : ∀ l : List Rat, (flsum l : Rat) ≤ rsum l ∧ rsum l ≤ (flsum l : Rat) + (l.length : Rat) := by
  refine snocInd (by constructor <;> simp [flsum, rsum] <;> try grind) fun l x ih => ?_
  · have h1 := Rat.floor_le x
    have h2 := fr_lt x
    unfold fr at h2
    rw [rsum_snoc, flsum_snoc, List.length_append, List.length_singleton]
    rw [Rat.intCast_add, Rat.natCast_add]
    grind
theorem missing_int {l : List Rat} {t : Int} (h : rsum l = (t : Rat)) : 0 ≤ t - flsum l ∧ t - flsum l ≤ l.length := by
  have ⟨h1, h2⟩ := missing l
  rw [h] at h1 h2
  have h3 : flsum l ≤ t := Rat.intCast_le_intCast.1 h1
  have h4 : t ≤ flsum l + l.length := Rat.intCast_le_intCast.1 (by rw [Rat.intCast_add, Rat.intCast_natCast]; exact h2)
  omega
/-- what Apportion gives -/
def appF (l : List Rat) (t : Int) (i : Nat) : Int := (l.getD i default).floor + if (rk (fun j => fr (l.getD j default)) l.length i : Int) < t - flsum l then 1 else 0
end Go.Vm
namespace Go.Vm
/-- lists that are filled from the left -/
def preK {α : Type} (f : Nat → α) (z : α) (n k : Nat) : List α := (List.range n).map fun j => if j < k then f j else z
theorem length_preK {α : Type} (f : Nat → α) (z : α) (n k : Nat) : (preK f z n k).length = n := by simp [preK]
/-- lists by a rule -/
def byR {α : Type} (f : Nat → α) (n : Nat) : List α := (List.range n).map f
theorem length_byR {α : Type} (f : Nat → α) (n : Nat) : (byR f n).length = n := by simp [byR]
section
variable {α : Type} [Inhabited α] {f : Nat → α} {z : α} {n k : Nat}
theorem preK_at {j : Nat} (h : j < n) : (preK f z n k).getD j default = if j < k then f j else z := by simp [preK, h]
theorem list_ext {a b : List α} (hl : a.length = b.length) (h : ∀ j, j < a.length → a.getD j default = b.getD j default) : a = b := by
  apply List.ext_getElem hl
  intro j h1 h2
  have := h j h1
  simpa [List.getD_eq_getElem?_getD, List.getElem?_eq_getElem h1, List.getElem?_eq_getElem h2] using this
theorem set_at {l : List α} {k j : Nat} {x : α} (h : j < l.length) : (l.set k x).getD j default = if k = j then x else l.getD j default := by
  by_cases e : k = j
  · subst e; simp [h]
  · rw [if_neg e]; simp [List.getElem?_set_ne e]
theorem preK_zero : preK f z n 0 = List.replicate n z := list_ext (by simp [preK]) fun j hj => by
  rw [length_preK] at hj
  rw [preK_at hj]; simp [hj]
theorem preK_set {x : α} (h : k < n) (hx : x = f k) : (preK f z n k).set k x = preK f z n (k + 1) := list_ext (by simp [preK]) fun j hj => by
  rw [List.length_set, length_preK] at hj
  rw [set_at (by rw [length_preK]; exact hj), preK_at hj, preK_at hj]
  by_cases e : k = j
  · subst e; rw [if_pos rfl, if_pos (by omega)]; exact hx
  · rw [if_neg e]
    by_cases h2 : j < k
    · rw [if_pos h2, if_pos (by omega)]
    · rw [if_neg h2, if_neg (by omega)]
theorem byR_at {j : Nat} (h : j < n) : (byR f n).getD j default = f j := by simp [byR, h]
theorem byR_ext {l : List α} (hl : l.length = n) (h : ∀ j, j < n → l.getD j default = f j) : l = byR f n := list_ext (by rw [length_byR]; exact hl) fun j hj => by rw [byR_at (by omega)]; exact h j (by omega)
theorem preK_full : preK f z n n = byR f n := byR_ext (length_preK ..) fun j hj => by rw [preK_at hj, if_pos hj]
end
def outF (qs : List Rat) (M : List Nat) (j : Nat) : Int := (qs.getD j default).floor + if j ∈ M then 1 else 0
def parF (qs : List Rat) (M : List Nat) (j : Nat) : Rat := if j ∈ M then ((-1 : Int) : Rat) else fr (qs.getD j default)
theorem out_nil (qs : List Rat) : preK (fun j => (qs.getD j default).floor) 0 qs.length qs.length = byR (outF qs []) qs.length := by
  rw [preK_full]; unfold byR outF; simp
theorem par_nil (qs : List Rat) : preK (fun j => fr (qs.getD j default)) 0 qs.length qs.length = byR (parF qs []) qs.length := by
  rw [preK_full]; unfold byR parF; simp
theorem out_set {qs : List Rat} {M : List Nat} {c : Nat} {x : Int} (hc : c < qs.length) (hm : c ∉ M) (hx : x = (qs.getD c default).floor + 1) : (byR (outF qs M) qs.length).set c x = byR (outF qs (M ++ [c])) qs.length := by
  refine byR_ext (by simp [length_byR]) fun j hj => ?_
  rw [set_at (by rw [length_byR]; exact hj), byR_at hj]
  unfold outF
  by_cases e : c = j
  · subst e
    rw [if_pos rfl, if_pos (by simp), hx]
  · rw [if_neg e]
    congr 1
    have : (j ∈ M ++ [c]) ↔ j ∈ M := by simp [Ne.symm e]
    simp only [this]
theorem par_set {qs : List Rat} {M : List Nat} {c : Nat} (_hc : c < qs.length) : (byR (parF qs M) qs.length).set c ((-1 : Int) : Rat) = byR (parF qs (M ++ [c])) qs.length := by
  refine byR_ext (by simp [length_byR]) fun j hj => ?_
  rw [set_at (by rw [length_byR]; exact hj), byR_at hj]
  unfold parF
  by_cases e : c = j
  · subst e
    rw [if_pos rfl, if_pos (by simp)]
  · rw [if_neg e]
    have : (j ∈ M ++ [c]) ↔ j ∈ M := by simp [Ne.symm e]
    simp only [this]
theorem par_sign {qs : List Rat} {M : List Nat} {k : Nat} (hk : k < qs.length) : 0 ≤ Int.sign ((byR (parF qs M) qs.length).getD k default).num ↔ k ∉ M := by
  rw [byR_at hk]
  unfold parF
  by_cases h : k ∈ M
  · simp only [h, if_true, not_true_eq_false, iff_false]
    show ¬ 0 ≤ Int.sign (-1)
    decide
  · simp only [h, if_false, not_false_eq_true, iff_true]
    exact Int.sign_nonneg_iff.2 (Rat.num_nonneg.2 (fr_nonneg _))
theorem app_end {qs : List Rat} {M : List Nat} {t : Int} (hS : Seg (fun j => fr (qs.getD j default)) qs.length M) (hM : (M.length : Int) = t - flsum qs) : byR (outF qs M) qs.length = byR (appF qs t) qs.length := by
  refine byR_ext (length_byR ..) fun j hj => ?_
  rw [byR_at hj]
  unfold outF appF
  congr 1
  have := hS.rank hj
  by_cases h : j ∈ M
  · rw [if_pos h, if_pos (by have := this.1 h; omega)]
  · rw [if_neg h, if_neg (fun h2 => h (this.2 (by omega)))]
theorem flsum_next {qs : List Rat} {k : Nat} (h : k < qs.length) : flsum (qs.take (k + 1)) = flsum (qs.take k) + (qs.getD k default).floor := by
  rw [List.take_succ_eq_append_getElem h, flsum_snoc]
  simp [List.getD_eq_getElem?_getD, h]
theorem floor_bd {q : Rat} {B : Int} (h : 0 ≤ q ∧ q ≤ ((B : Int) : Rat)) : 0 ≤ q.floor ∧ q.floor ≤ B := by
  refine ⟨Rat.le_floor_iff.2 h.1, ?_⟩
  have := Rat.floor_monotone h.2
  rw [Rat.floor_intCast] at this
  exact this
end Go.Vm
