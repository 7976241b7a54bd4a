/-
  PLAIN LAWS OF NATURAL NUMBERS AS LIMBS of 32 bits: value, digits, sums, differences, products.
-/
import Derived.Test.YtppgppnkhpjlpaaMsort
namespace Go.Vm
def val : List Nat → Nat
  | [] => 0
  | x :: xs => x + 4294967296 * val xs
def Lm (xs : List Nat) : Prop := ∀ x ∈ xs, x < 4294967296
def digsF : Nat → Nat → List Nat
  | 0, _ => []
  | f + 1, n => if n = 0 then [] else (n % 4294967296) :: digsF f (n / 4294967296)
def digs (n : Nat) : List Nat := digsF n n
def len (n : Nat) : Nat := (digs n).length

theorem digsF_ind : ∀ (f g n : Nat), n ≤ f → n ≤ g → digsF f n = digsF g n
  | 0, 0, _, _, _ => rfl
  | 0, g + 1, n, h, _ => by have : n = 0 := by omega
                            subst this; simp [digsF]
  | f + 1, 0, n, _, h => by have : n = 0 := by omega
                            subst this; simp [digsF]
  | f + 1, g + 1, n, h1, h2 => by
    by_cases h0 : n = 0
    · simp [digsF, h0]
    · simp only [digsF, h0, if_false]
      rw [digsF_ind f g (n / 4294967296) (by omega) (by omega)]
theorem digs_zero : digs 0 = [] := rfl
theorem digs_pos {n : Nat} (h : n ≠ 0) : digs n = (n % 4294967296) :: digs (n / 4294967296) := by
  obtain ⟨m, rfl⟩ : ∃ m, n = m + 1 := ⟨n - 1, by omega⟩
  show digsF (m + 1) (m + 1) = _
  simp only [digsF, h, if_false]
  rw [digsF_ind m ((m + 1) / 4294967296) _ (by omega) (by omega)]
  rfl
theorem val_digs (n : Nat) : val (digs n) = n := by
  induction n using Nat.strongRecOn with
  | ind n ih =>
    by_cases h : n = 0
    · subst h; rfl
    · rw [digs_pos h]
      show n % 4294967296 + 4294967296 * val (digs (n / 4294967296)) = n
      rw [ih _ (by omega)]
      omega
theorem digs_lm (n : Nat) : Lm (digs n) := by
  induction n using Nat.strongRecOn with
  | ind n ih =>
    by_cases h : n = 0
    · subst h; intro x hx; rw [digs_zero] at hx; cases hx
    · rw [digs_pos h]
      intro x hx
      rcases List.mem_cons.1 hx with rfl | hx
      · exact Nat.mod_lt _ (by decide)
      · exact ih _ (by omega) x hx
theorem val_append (a b : List Nat) : val (a ++ b) = val a + 4294967296 ^ a.length * val b := by
  induction a with
  | nil => simp [val]
  | cons x a ih =>
    show x + 4294967296 * val (a ++ b) = x + 4294967296 * val a + 4294967296 ^ (a.length + 1) * val b
    rw [ih, Nat.pow_succ, Nat.mul_add, Nat.mul_comm (4294967296 ^ a.length) 4294967296, Nat.mul_assoc]
    omega
theorem val_snoc (a : List Nat) (x : Nat) : val (a ++ [x]) = val a + 4294967296 ^ a.length * x := by
  rw [val_append]; simp [val]
theorem val_lt {a : List Nat} (h : Lm a) : val a < 4294967296 ^ a.length := by
  induction a with
  | nil => simp [val]
  | cons x a ih =>
    have h1 := ih (fun y hy => h y (by simp [hy]))
    have h2 := h x (by simp)
    show x + 4294967296 * val a < 4294967296 ^ (a.length + 1)
    rw [Nat.pow_succ, Nat.mul_comm]
    omega
theorem Lm.nil : Lm [] := fun _ h => by cases h
theorem Lm.append {a b : List Nat} (ha : Lm a) (hb : Lm b) : Lm (a ++ b) := fun x hx => by
  rcases List.mem_append.1 hx with h | h
  · exact ha x h
  · exact hb x h
theorem Lm.snoc {a : List Nat} (ha : Lm a) {x : Nat} (hx : x < 4294967296) : Lm (a ++ [x]) := ha.append fun y hy => by rw [List.mem_singleton] at hy; omega
theorem Lm.take {a : List Nat} (h : Lm a) (k : Nat) : Lm (a.take k) := fun x hx => h x (List.mem_of_mem_take hx)
theorem Lm.drop {a : List Nat} (h : Lm a) (k : Nat) : Lm (a.drop k) := fun x hx => h x (List.mem_of_mem_drop hx)
theorem Lm.at {a : List Nat} (h : Lm a) {k : Nat} (hk : k < a.length) : a.getD k default < 4294967296 := h _ (getD_mem _ _ hk)
theorem val_zeros (n : Nat) : val (List.replicate n 0) = 0 := by
  induction n with
  | zero => rfl
  | succ n ih => rw [List.replicate_succ]; show 0 + 4294967296 * val _ = 0; rw [ih]
theorem Lm.zeros (n : Nat) : Lm (List.replicate n 0) := fun x hx => by rw [List.eq_of_mem_replicate hx]; decide
/-- Does it end in a limb that is not 0? -/
def Cn (a : List Nat) : Prop := a.length = 0 ∨ a.getD (a.length - 1) default ≠ 0
theorem Cn.tail {x : Nat} {a : List Nat} (h : Cn (x :: a)) (ha : a ≠ []) : Cn a := by
  right
  rcases h with h | h
  · simp at h
  · have : 0 < a.length := List.length_pos_iff.2 ha
    rw [List.length_cons, Nat.add_sub_cancel] at h
    obtain ⟨m, hm⟩ : ∃ m, a.length = m + 1 := ⟨a.length - 1, by omega⟩
    rw [hm] at h ⊢
    simpa using h
theorem Cn.pos {a : List Nat} (h : Cn a) (ha : a ≠ []) : 0 < val a := by
  induction a with
  | nil => exact absurd rfl ha
  | cons x a ih =>
    show 0 < x + 4294967296 * val a
    by_cases h0 : a = []
    · subst h0
      rcases h with h | h
      · simp at h
      · simp at h; omega
    · have := ih (h.tail h0) h0; omega
theorem canon_digs {a : List Nat} (hl : Lm a) (hc : Cn a) : a = digs (val a) := by
  induction a with
  | nil => rfl
  | cons x a ih =>
    have hx := hl x (by simp)
    have hpos := hc.pos (by simp)
    rw [digs_pos (by omega)]
    show x :: a = ((x + 4294967296 * val a) % 4294967296) :: digs ((x + 4294967296 * val a) / 4294967296)
    rw [show (x + 4294967296 * val a) % 4294967296 = x by omega, show (x + 4294967296 * val a) / 4294967296 = val a by omega]
    congr 1
    by_cases h0 : a = []
    · subst h0; rfl
    · exact ih (fun y hy => hl y (by simp [hy])) (hc.tail h0)
theorem digs_cn (n : Nat) : Cn (digs n) := by
  induction n using Nat.strongRecOn with
  | ind n ih =>
    by_cases h : n = 0
    · subst h; exact .inl rfl
    · right
      rw [digs_pos h]
      by_cases h0 : n / 4294967296 = 0
      · rw [h0, digs_zero]
        simp; omega
      · have h1 := ih _ (show n / 4294967296 < n by omega)
        rcases h1 with h1 | h1
        · rw [digs_pos h0] at h1; simp at h1
        · obtain ⟨m, hm⟩ : ∃ m, (digs (n / 4294967296)).length = m + 1 := ⟨(digs (n / 4294967296)).length - 1, by rw [digs_pos h0]; simp⟩
          rw [List.length_cons, Nat.add_sub_cancel, hm]
          rw [hm, Nat.add_sub_cancel] at h1
          simpa using h1
theorem trim_digs {xs : List Nat} {n : Nat} (hx : Lm xs) (hn : n ≤ xs.length) (hv : val (xs.take n) = val xs) (hl : n = 0 ∨ xs.getD (n - 1) default ≠ 0) : xs.take n = digs (val xs) := by
  rw [← hv]
  refine canon_digs (hx.take n) ?_
  have hlen : (xs.take n).length = n := by simp; omega
  unfold Cn
  rw [hlen]
  rcases hl with h | h
  · exact .inl h
  · by_cases h0 : n = 0
    · exact .inl h0
    · right
      simpa [List.getD_eq_getElem?_getD, List.getElem?_take, show n - 1 < n by omega] using h
theorem trim_step {xs : List Nat} {n : Nat} (hn : n ≤ xs.length) (h0 : 0 < n) (hv : val (xs.take n) = val xs) (hz : xs.getD (n - 1) default = 0) : val (xs.take (n - 1)) = val xs := by
  obtain ⟨m, rfl⟩ : ∃ m, n = m + 1 := ⟨n - 1, by omega⟩
  rw [Nat.add_sub_cancel] at hz ⊢
  rw [take_snoc xs m (by omega), val_snoc, hz] at hv
  omega
theorem val_take_succ {xs : List Nat} {k : Nat} (h : k < xs.length) : val (xs.take (k + 1)) = val (xs.take k) + 4294967296 ^ k * xs.getD k default := by
  rw [take_snoc xs k h, val_snoc, List.length_take, Nat.min_eq_left (by omega)]
theorem val_take_all {xs : List Nat} {k : Nat} (h : xs.length ≤ k) : val (xs.take k) = val xs := by rw [List.take_of_length_le h]
/-- one limb more, whether there is one or not -/
def dig (xs : List Nat) (k : Nat) : Nat := if k < xs.length then xs.getD k default else 0
theorem val_take_dig (xs : List Nat) (k : Nat) : val (xs.take (k + 1)) = val (xs.take k) + 4294967296 ^ k * dig xs k := by
  unfold dig
  split
  · next h => exact val_take_succ h
  · rw [val_take_all (by omega), val_take_all (by omega)]; rfl
theorem dig_t {xs : List Nat} {k : Nat} (h : k < xs.length) : dig xs k = xs.getD k default := if_pos h
theorem dig_f {xs : List Nat} {k : Nat} (h : ¬ k < xs.length) : dig xs k = 0 := if_neg h
theorem dig_lt {xs : List Nat} (h : Lm xs) (k : Nat) : dig xs k < 4294967296 := by
  unfold dig
  split
  · next hk => exact h.at hk
  · decide
theorem digs_len_le {n k : Nat} (h : n < 4294967296 ^ k) : (digs n).length ≤ k := by
  induction k generalizing n with
  | zero => have : n = 0 := by simpa using h
            subst this; simp [digs_zero]
  | succ k ih =>
    by_cases h0 : n = 0
    · subst h0; simp [digs_zero]
    · rw [digs_pos h0, List.length_cons]
      have := @ih (n / 4294967296) (by rw [Nat.pow_succ] at h; exact Nat.div_lt_of_lt_mul (by rw [Nat.mul_comm]; exact h))
      omega
theorem lt_len (n : Nat) : n < 4294967296 ^ len n := by
  have := val_lt (digs_lm n)
  rwa [val_digs] at this
theorem len_le_of {xs : List Nat} (h : Lm xs) : len (val xs) ≤ xs.length := digs_len_le (val_lt h)
theorem len_digs (n : Nat) : (digs n).length = len n := rfl
theorem len_mono {m n : Nat} (h : m ≤ n) : len m ≤ len n := digs_len_le (Nat.lt_of_le_of_lt h (lt_len n))
theorem pow_len_le {n : Nat} (h : n ≠ 0) : 4294967296 ^ (len n - 1) ≤ n := by
  rcases Nat.lt_or_ge n (4294967296 ^ (len n - 1)) with h1 | h1
  · have h2 := digs_len_le h1
    rw [len_digs] at h2
    have : len n ≠ 0 := by unfold len; rw [digs_pos h]; simp
    omega
  · exact h1
theorem len_lt_of {m n : Nat} (h : len m < len n) : m < n := by
  have h1 := lt_len m
  have h2 : 4294967296 ^ len m ≤ 4294967296 ^ (len n - 1) := Nat.pow_le_pow_right (by decide) (by omega)
  have h3 := pow_len_le (n := n) (fun h0 => by subst h0; simp [len, digs_zero] at h)
  omega
theorem len_zero {n : Nat} : len n = 0 ↔ n = 0 := by
  constructor
  · intro h; have := lt_len n; rw [h] at this; simpa using this
  · rintro rfl; rfl
theorem len_add (m n : Nat) : len (m + n) ≤ max (len m) (len n) + 1 := by
  refine digs_len_le ?_
  have h1 := lt_len m
  have h2 := lt_len n
  have h3 : 4294967296 ^ len m ≤ 4294967296 ^ max (len m) (len n) := Nat.pow_le_pow_right (by decide) (by omega)
  have h4 : 4294967296 ^ len n ≤ 4294967296 ^ max (len m) (len n) := Nat.pow_le_pow_right (by decide) (by omega)
  rw [Nat.pow_succ]
  omega
theorem len_mul (m n : Nat) : len (m * n) ≤ len m + len n := by
  refine digs_len_le ?_
  rw [Nat.pow_add]
  exact Nat.mul_lt_mul'' (lt_len m) (lt_len n)
/-- limbs already written, then zeros -/
def fillN (P : List Nat) (m : Nat) : List Nat := P ++ List.replicate (m - P.length) 0
theorem fillN_nil (m : Nat) : fillN [] m = List.replicate m 0 := by simp [fillN]
theorem length_fillN {P : List Nat} {m : Nat} (h : P.length ≤ m) : (fillN P m).length = m := by simp [fillN]; omega
theorem fillN_set {P : List Nat} {m k u : Nat} (hk : P.length = k) (h : k < m) : (fillN P m).set k u = fillN (P ++ [u]) m := by
  unfold fillN
  subst hk
  rw [List.set_append_right _ _ (Nat.le_refl _), Nat.sub_self]
  obtain ⟨q, hq⟩ : ∃ q, m - P.length = q + 1 := ⟨m - P.length - 1, by omega⟩
  rw [hq, List.replicate_succ, List.length_append, show m - (P.length + [u].length) = q by simp; omega]
  simp
theorem fillN_full {P : List Nat} {m : Nat} (h : P.length = m) : fillN P m = P := by simp [fillN, h]
theorem mul_mod_div (p s : Nat) : p * (s % 4294967296) + 4294967296 * p * (s / 4294967296) = p * s := by
  rw [Nat.mul_comm 4294967296 p, Nat.mul_assoc, ← Nat.mul_add, Nat.mod_add_div]
/-- a step of a sum -/
theorem add_step {P : List Nat} {k c x y A B : Nat} (hP : P.length = k) (h : val P + 4294967296 ^ k * c = A + B) :
    val (P ++ [(c + x + y) % 4294967296]) + 4294967296 ^ (k + 1) * ((c + x + y) / 4294967296) = (A + 4294967296 ^ k * x) + (B + 4294967296 ^ k * y) := by
  rw [val_snoc, hP, Nat.pow_succ]
  have h1 := mul_mod_div (4294967296 ^ k) (c + x + y)
  rw [Nat.mul_comm 4294967296] at h1
  rw [Nat.mul_add, Nat.mul_add] at h1
  omega
theorem add_end {P : List Nat} {m c A B n : Nat} (hP : P.length = m) (hm : m = n + 1) (h : val P + 4294967296 ^ m * c = A + B) (hA : A < 4294967296 ^ n) (hB : B < 4294967296 ^ n) : val P = A + B := by
  have h1 : 4294967296 ^ m = 4294967296 ^ n * 4294967296 := by rw [hm, Nat.pow_succ]
  rcases Nat.eq_zero_or_pos c with h0 | h0
  · subst h0; omega
  · have : 4294967296 ^ m * 1 ≤ 4294967296 ^ m * c := Nat.mul_le_mul_left _ h0
    omega
/-- a step of a difference: c is what is borrowed -/
theorem sub_step {P : List Nat} {k c x y A B : Nat} (hP : P.length = k) (h : val P + B = A + 4294967296 ^ k * c) (hx : x < 4294967296) (hy : y < 4294967296) (hc : c ≤ 1) :
    val (P ++ [(x + 4294967296 - (c + y)) % 4294967296]) + (B + 4294967296 ^ k * y) = (A + 4294967296 ^ k * x) + 4294967296 ^ (k + 1) * (if x < c + y then 1 else 0) := by
  rw [val_snoc, hP, Nat.pow_succ]
  have e : ∀ p : Nat, p * ((x + 4294967296 - (c + y)) % 4294967296) + p * (c + y) = p * x + p * (4294967296 * if x < c + y then 1 else 0) := fun p => by
    rw [← Nat.mul_add, ← Nat.mul_add]
    congr 1
    split <;> omega
  have h1 := e (4294967296 ^ k)
  rw [Nat.mul_add _ c y, ← Nat.mul_assoc] at h1
  omega
/-- a step of a row of a product: o is the limb that was there -/
theorem mul_step {P : List Nat} {k c o x y A : Nat} (hP : P.length = k) (h : val P + 4294967296 ^ k * c = A) :
    val (P ++ [(c + (o + x * y)) % 4294967296]) + 4294967296 ^ (k + 1) * ((c + (o + x * y)) / 4294967296) = A + 4294967296 ^ k * o + x * (4294967296 ^ k * y) := by
  rw [val_snoc, hP, Nat.pow_succ]
  have h1 := mul_mod_div (4294967296 ^ k) (c + (o + x * y))
  rw [Nat.mul_comm 4294967296] at h1
  rw [Nat.mul_add, Nat.mul_add, Nat.mul_left_comm _ x y] at h1
  omega
end Go.Vm
namespace Go.Vm
theorem drop_at {a : List Nat} {m : Nat} (h : m < a.length) : a.drop m = a.getD m default :: a.drop (m + 1) := drop_cons a m h
theorem val_split (a : List Nat) {m : Nat} (h : m ≤ a.length) : val a = val (a.take m) + 4294967296 ^ m * val (a.drop m) := by
  have := val_append (a.take m) (a.drop m)
  rw [List.take_append_drop, List.length_take, Nat.min_eq_left h] at this
  exact this
theorem cmp_at {a b : List Nat} {m : Nat} (ha : Lm a) (hl : a.length = b.length) (hm : m < a.length) (hd : a.drop (m + 1) = b.drop (m + 1)) (hx : a.getD m default < b.getD m default) : val a < val b := by
  rw [val_split a (Nat.le_of_lt hm), val_split b (show m ≤ b.length by omega), drop_at hm, drop_at (show m < b.length by omega), hd]
  have h1 := val_lt (ha.take m)
  rw [List.length_take, Nat.min_eq_left (by omega)] at h1
  show _ + 4294967296 ^ m * (a.getD m default + 4294967296 * val (b.drop (m + 1))) < _ + 4294967296 ^ m * (b.getD m default + 4294967296 * val (b.drop (m + 1)))
  have h2 : 4294967296 ^ m * (a.getD m default + 1 + 4294967296 * val (b.drop (m + 1))) ≤ 4294967296 ^ m * (b.getD m default + 4294967296 * val (b.drop (m + 1))) := Nat.mul_le_mul_left _ (by omega)
  rw [show a.getD m default + 1 + 4294967296 * val (b.drop (m + 1)) = (a.getD m default + 4294967296 * val (b.drop (m + 1))) + 1 by omega, Nat.mul_add, Nat.mul_one] at h2
  omega
theorem drop_step {a b : List Nat} {n : Nat} (h0 : 0 < n) (ha : n ≤ a.length) (hb : n ≤ b.length) (hd : a.drop n = b.drop n) (hx : a.getD (n - 1) default = b.getD (n - 1) default) : a.drop (n - 1) = b.drop (n - 1) := by
  obtain ⟨m, rfl⟩ : ∃ m, n = m + 1 := ⟨n - 1, by omega⟩
  rw [Nat.add_sub_cancel] at hx ⊢
  rw [drop_at (by omega), drop_at (show m < b.length by omega), hx, hd]
theorem val_two (x : Nat) : val [x % 4294967296, x / 4294967296] = x := by simp [val]; omega
theorem Lm.two {x : Nat} (h : x < 18446744073709551616) : Lm [x % 4294967296, x / 4294967296 % 4294967296] := by
  intro y hy
  simp at hy
  omega
theorem len_u64 {n : Nat} : n < 18446744073709551616 ↔ len n ≤ 2 := by
  constructor
  · intro h; exact digs_len_le (k := 2) (by omega)
  · intro h
    have h1 := lt_len n
    have h2 : 4294967296 ^ len n ≤ 4294967296 ^ 2 := Nat.pow_le_pow_right (by decide) h
    omega
theorem val_small {a : List Nat} (ha : Lm a) (h : a.length ≤ 2) : val a < 18446744073709551616 := by
  have h1 := val_lt ha
  have h2 : 4294967296 ^ a.length ≤ 4294967296 ^ 2 := Nat.pow_le_pow_right (by decide) h
  omega
theorem val_drop_cons {a : List Nat} {n : Nat} (h0 : 0 < n) (h : n ≤ a.length) : val (a.drop (n - 1)) = a.getD (n - 1) default + 4294967296 * val (a.drop n) := by
  obtain ⟨m, rfl⟩ : ∃ m, n = m + 1 := ⟨n - 1, by omega⟩
  rw [Nat.add_sub_cancel, drop_at (by omega)]
  rfl
theorem getD_ext {l m : List Nat} (hl : l.length = m.length) (h : ∀ j, j < l.length → l.getD j default = m.getD j default) : l = m := by
  apply List.ext_getElem hl
  intro j h1 h2
  have := h j h1
  simpa [h1, h2] using this
end Go.Vm
namespace Go.Vm
theorem add_fin {x y P : List Nat} {k c : Nat} (lx : Lm x) (ly : Lm y) (hP : P.length = k) (hk : k = max x.length y.length + 1) (hv : val P + 4294967296 ^ k * c = val (x.take k) + val (y.take k)) : val P = val x + val y := by
  rw [val_take_all (by omega), val_take_all (by omega)] at hv
  refine add_end hP hk hv ?_ ?_
  · exact Nat.lt_of_lt_of_le (val_lt lx) (Nat.pow_le_pow_right (by decide) (by omega))
  · exact Nat.lt_of_lt_of_le (val_lt ly) (Nat.pow_le_pow_right (by decide) (by omega))
theorem sub_fin {x y P : List Nat} {k c : Nat} (lP : Lm P) (hP : P.length = k) (hx : x.length ≤ k) (hy : y.length ≤ k) (hxy : val y ≤ val x) (hv : val P + val (y.take k) = val (x.take k) + 4294967296 ^ k * c) : val P = val x - val y := by
  rw [val_take_all hx, val_take_all hy] at hv
  have h1 := val_lt lP
  rw [hP] at h1
  rcases Nat.eq_zero_or_pos c with h0 | h0
  · subst h0; omega
  · have : 4294967296 ^ k * 1 ≤ 4294967296 ^ k * c := Nat.mul_le_mul_left _ h0
    omega
theorem limb_mul {x y : Nat} (hx : x < 4294967296) (hy : y < 4294967296) : x * y ≤ 18446744065119617025 := by
  have h1 : x * y ≤ 4294967295 * y := Nat.mul_le_mul_right _ (by omega)
  omega
/-- the limbs of a product while a row is added -/
def rowN (O Q : List Nat) (i : Nat) : List Nat := O.take i ++ Q ++ O.drop (i + Q.length)
theorem rowN_nil (O : List Nat) (i : Nat) : rowN O [] i = O := by simp [rowN]
theorem rowN_at {O Q : List Nat} {i k : Nat} (hQ : Q.length = k) (hi : i + k < O.length) : (rowN O Q i).getD (i + k) default = O.getD (i + k) default := by
  unfold rowN
  rw [List.getD_eq_getElem?_getD, List.getD_eq_getElem?_getD, List.getElem?_append_right (by simp; omega)]
  simp only [List.length_append, List.length_take, List.getElem?_drop]
  rw [hQ, show i + k + (i + k - (min i O.length + k)) = i + k by omega]
theorem rowN_set {O Q : List Nat} {i k u : Nat} (hQ : Q.length = k) (hi : i + k < O.length) : (rowN O Q i).set (i + k) u = rowN O (Q ++ [u]) i := by
  unfold rowN
  rw [List.set_append_right _ _ (by simp; omega), List.append_assoc (O.take i), List.append_assoc (O.take i), List.append_assoc Q]
  congr 2
  simp only [List.length_append, List.length_take, List.length_singleton]
  rw [show i + k - (min i O.length + Q.length) = 0 by omega, hQ, drop_at hi]
  rfl
theorem length_rowN {O Q : List Nat} {i : Nat} (h : i + Q.length ≤ O.length) : (rowN O Q i).length = O.length := by simp [rowN]; omega
theorem rowN_lm {O Q : List Nat} {i : Nat} (hO : Lm O) (hQ : Lm Q) : Lm (rowN O Q i) := ((hO.take i).append hQ).append (hO.drop _)
theorem mul_row {O x y Q : List Nat} {i n c : Nat} (hi : i < x.length) (hQ : Q.length = y.length) (hO : O.length = x.length + y.length) (h1 : val (O.take (i + y.length)) = val (x.take i) * val y)
    (h2 : val Q + 4294967296 ^ y.length * c = val ((O.drop i).take y.length) + x.getD i default * val y) :
    val ((rowN O (Q ++ [c]) i).take (i + 1 + y.length)) = val (x.take (i + 1)) * val y := by
  have e : (rowN O (Q ++ [c]) i).take (i + 1 + y.length) = O.take i ++ (Q ++ [c]) := by
    unfold rowN
    rw [List.take_append_of_le_length (by simp; omega)]
    exact List.take_of_length_le (by simp; omega)
  have e2 : O.take (i + y.length) = O.take i ++ (O.drop i).take y.length := by rw [List.take_add]
  rw [e2, val_append, List.length_take, Nat.min_eq_left (by omega)] at h1
  rw [e, val_append, List.length_take, Nat.min_eq_left (by omega), val_snoc, hQ, h2, Nat.mul_add, val_take_succ hi, Nat.add_mul, ← h1, Nat.mul_assoc]
  omega
theorem rowN_zeros {O Q : List Nat} {i m : Nat} (hQ : Q.length = m + 1) (hO : i + m < O.length) (hz : ∀ j, i + m ≤ j → j < O.length → O.getD j default = 0) : ∀ j, i + 1 + m ≤ j → j < (rowN O Q i).length → (rowN O Q i).getD j default = 0 := by
  intro j h1 h2
  rw [length_rowN (by omega)] at h2
  have h3 := hz j (by omega) h2
  unfold rowN
  rw [List.getD_eq_getElem?_getD, List.getElem?_append_right (by simp; omega)]
  simp only [List.length_append, List.length_take, List.getElem?_drop]
  rw [hQ, show i + (m + 1) + (j - (min i O.length + (m + 1))) = j by omega]
  rw [List.getD_eq_getElem?_getD] at h3
  exact h3
end Go.Vm
namespace Go.Vm
theorem mul_row_step {O y Q : List Nat} {i k c xi : Nat} (hQ : Q.length = k) (hk : k < y.length) (hO : i + k < O.length) (h : val Q + 4294967296 ^ k * c = val ((O.drop i).take k) + xi * val (y.take k)) :
    val (Q ++ [(c + (O.getD (i + k) default + xi * y.getD k default)) % 4294967296]) + 4294967296 ^ (k + 1) * ((c + (O.getD (i + k) default + xi * y.getD k default)) / 4294967296) = val ((O.drop i).take (k + 1)) + xi * val (y.take (k + 1)) := by
  have h1 := mul_step (o := O.getD (i + k) default) (x := xi) (y := y.getD k default) hQ h
  have h2 := val_take_succ (xs := O.drop i) (k := k) (by rw [List.length_drop]; omega)
  rw [show (O.drop i).getD k default = O.getD (i + k) default by simp [List.getD_eq_getElem?_getD]] at h2
  rw [h1, h2, val_take_succ hk, Nat.mul_add]
  omega
end Go.Vm
namespace Go.Vm
theorem pow32 (m : Nat) : 4294967296 ^ m = 2 ^ (32 * m) := by rw [show (4294967296 : Nat) = 2 ^ 32 from rfl, ← Nat.pow_mul]
theorem bits_law {X : List Nat} {s : Nat} (hX : Lm X) (h0 : 0 < X.length) (hs : X.getD (X.length - 1) default / 2 ^ s = 0) : val X < 2 ^ (32 * (X.length - 1) + s) := by
  have h1 : X.getD (X.length - 1) default < 2 ^ s := by
    rcases Nat.lt_or_ge (X.getD (X.length - 1) default) (2 ^ s) with h | h
    · exact h
    · have := Nat.div_pos h (Nat.two_pow_pos s); omega
  have h2 := val_lt (hX.take (X.length - 1))
  rw [List.length_take, Nat.min_eq_left (by omega)] at h2
  rw [val_split X (show X.length - 1 ≤ X.length by omega), drop_at (by omega), List.drop_of_length_le (by omega)]
  show _ + 4294967296 ^ (X.length - 1) * (X.getD (X.length - 1) default + 4294967296 * 0) < _
  rw [Nat.pow_add, ← pow32]
  have h3 : 4294967296 ^ (X.length - 1) * (X.getD (X.length - 1) default + 1) ≤ 4294967296 ^ (X.length - 1) * 2 ^ s := Nat.mul_le_mul_left _ h1
  rw [Nat.mul_add, Nat.mul_one] at h3
  rw [Nat.mul_zero, Nat.add_zero]
  omega
theorem bit_law {x : List Nat} (hx : Lm x) (i : Nat) : dig x (i / 32) / 2 ^ (i % 32) % 2 = val x / 2 ^ i % 2 := by
  have hi : i = 32 * (i / 32) + i % 32 := by omega
  have hs : i % 32 < 32 := by omega
  generalize i / 32 = q at *
  generalize i % 32 = s at *
  subst hi
  rw [Nat.pow_add, ← pow32, ← Nat.div_div_eq_div_mul]
  have h1 : val x / 4294967296 ^ q = dig x q + 4294967296 * val (x.drop (q + 1)) := by
    rcases Nat.lt_or_ge q x.length with h | h
    · rw [val_split x (Nat.le_of_lt h), drop_at h, dig_t h]
      have h2 := val_lt (hx.take q)
      rw [List.length_take, Nat.min_eq_left (by omega)] at h2
      rw [Nat.add_mul_div_left _ _ (Nat.pow_pos (by decide)), Nat.div_eq_of_lt h2, Nat.zero_add]
      rfl
    · rw [dig_f (by omega), List.drop_of_length_le (by omega)]
      have h2 := val_lt hx
      have h3 : 4294967296 ^ x.length ≤ 4294967296 ^ q := Nat.pow_le_pow_right (by decide) h
      rw [Nat.div_eq_of_lt (by omega)]
      rfl
  rw [h1]
  obtain ⟨t, ht⟩ : ∃ t, 32 = s + 1 + t := ⟨31 - s, by omega⟩
  have h4 : (4294967296 : Nat) = 2 ^ s * (2 * 2 ^ t) := by
    rw [show (4294967296 : Nat) = 2 ^ 32 from rfl, ht, Nat.pow_add, Nat.pow_add, Nat.pow_one, Nat.mul_assoc]
  rw [h4, Nat.mul_assoc (2 ^ s), Nat.add_mul_div_left _ _ (Nat.two_pow_pos s), Nat.mul_assoc 2]
  omega
theorem or_bit {a s : Nat} (h : a / 2 ^ s % 2 = 0) : a ||| 2 ^ s = a + 2 ^ s := by
  have h1 := Nat.mod_pow_succ (b := 2) (k := s) (x := a)
  rw [h, Nat.mul_zero, Nat.add_zero] at h1
  have h2 : a % 2 ^ (s + 1) < 2 ^ s := by rw [h1]; exact Nat.mod_lt _ (Nat.two_pow_pos s)
  have h3 := Nat.div_add_mod a (2 ^ (s + 1))
  have h4 := Nat.two_pow_add_eq_or_of_lt (i := s + 1) (b := a % 2 ^ (s + 1)) (Nat.mod_lt _ (Nat.two_pow_pos _)) (a / 2 ^ (s + 1))
  have h5 := Nat.two_pow_add_eq_or_of_lt (i := s) (b := a % 2 ^ (s + 1)) h2 1
  rw [Nat.mul_one] at h5
  have h6 : 2 ^ (s + 1) = 2 ^ s + 2 ^ s := by rw [Nat.pow_succ]; omega
  have h7 := Nat.two_pow_add_eq_or_of_lt (i := s + 1) (b := 2 ^ s + a % 2 ^ (s + 1)) (by omega) (a / 2 ^ (s + 1))
  clear h1
  generalize 2 ^ (s + 1) * (a / 2 ^ (s + 1)) = A at *
  generalize a % 2 ^ (s + 1) = l at *
  have e1 : a ||| 2 ^ s = (A ||| l) ||| 2 ^ s := by rw [← h4, h3]
  rw [e1, Nat.or_assoc, Nat.or_comm l, ← h5, ← h7]
  omega
theorem val_set {O : List Nat} {q u : Nat} (h : q < O.length) : val (O.set q u) + 4294967296 ^ q * O.getD q default = val O + 4294967296 ^ q * u := by
  have e : O.set q u = O.take q ++ u :: O.drop (q + 1) := by rw [List.set_eq_take_append_cons_drop, if_pos h]
  rw [e, val_append, List.length_take, Nat.min_eq_left (by omega), val_split O (Nat.le_of_lt h), drop_at h]
  show _ + 4294967296 ^ q * (u + 4294967296 * val (O.drop (q + 1))) + _ = _ + 4294967296 ^ q * (O.getD q default + 4294967296 * val (O.drop (q + 1))) + _
  rw [Nat.mul_add, Nat.mul_add]
  omega
theorem setbit {O : List Nat} {i : Nat} (hO : Lm O) (hi : i / 32 < O.length) (hd : val O % 2 ^ (i + 1) = 0) :
    O.getD (i / 32) default ||| 2 ^ (i % 32) = O.getD (i / 32) default + 2 ^ (i % 32) ∧ O.getD (i / 32) default + 2 ^ (i % 32) < 4294967296 ∧ val (O.set (i / 32) (O.getD (i / 32) default + 2 ^ (i % 32))) = val O + 2 ^ i := by
  have hb : val O / 2 ^ i % 2 = 0 := by
    have h1 := Nat.mod_pow_succ (b := 2) (k := i) (x := val O)
    rw [hd] at h1
    rcases Nat.eq_zero_or_pos (val O / 2 ^ i % 2) with h | h
    · exact h
    · have : 2 ^ i * 1 ≤ 2 ^ i * (val O / 2 ^ i % 2) := Nat.mul_le_mul_left _ h
      have := Nat.two_pow_pos i
      omega
  have ha := bit_law hO i
  rw [hb, dig_t hi] at ha
  refine ⟨or_bit ha, ?_, ?_⟩
  · have h1 := hO.at hi
    rw [← or_bit ha]
    exact Nat.or_lt_two_pow (n := 32) h1 (Nat.pow_lt_pow_right (by decide) (by omega))
  · have h1 := val_set (u := O.getD (i / 32) default + 2 ^ (i % 32)) hi
    rw [Nat.mul_add] at h1
    have h2 : 2 ^ i = 4294967296 ^ (i / 32) * 2 ^ (i % 32) := by rw [pow32, ← Nat.pow_add]; congr 1; omega
    omega
theorem div_next {n i Qn b r : Nat} (h : n / 2 ^ (i + 1) = Qn * b + r) : n / 2 ^ i = 2 * Qn * b + (r + r + n / 2 ^ i % 2) := by
  rw [Nat.pow_succ, ← Nat.div_div_eq_div_mul] at h
  have h1 : 2 * Qn * b = Qn * b + Qn * b := by rw [Nat.mul_assoc]; omega
  omega
theorem div_fin {n b Qn r : Nat} (h : n = Qn * b + r) (hr : r < b) : Qn = n / b ∧ r = n % b := by
  subst h
  rw [Nat.mul_comm, Nat.mul_add_div (by omega), Nat.mul_add_mod, Nat.div_eq_of_lt hr, Nat.mod_eq_of_lt hr]
  exact ⟨rfl, rfl⟩
def modZ (x y : Nat) : Nat := if y = 0 then 0 else x % y
end Go.Vm
namespace Go.Vm
theorem Lm.set {O : List Nat} (h : Lm O) {q u : Nat} (hu : u < 4294967296) : Lm (O.set q u) := fun x hx => by
  rcases List.mem_or_eq_of_mem_set hx with hx | rfl
  · exact h x hx
  · exact hu
theorem dm_shift (Q i : Nat) : Q * 2 ^ (i + 1) = 2 * Q * 2 ^ i := by
  rw [Nat.pow_succ, Nat.mul_comm (2 ^ i) 2, ← Nat.mul_assoc, Nat.mul_comm Q 2]
end Go.Vm
