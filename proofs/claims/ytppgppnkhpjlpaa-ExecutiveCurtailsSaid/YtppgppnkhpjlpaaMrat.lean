/-
  PLAIN LAWS of signed integers and of fractions over lists of limbs; no program in sight.
-/
import Derived.Test.YtppgppnkhpjlpaaMnat
namespace Go.Vm
/-- a sign and a size -/
def sg (b : Bool) (n : Nat) : Int := match b with
  | true => -(n : Int)
  | false => (n : Int)
theorem sg_t (n : Nat) : sg true n = -(n : Int) := rfl
theorem sg_f (n : Nat) : sg false n = (n : Int) := rfl
theorem sg_abs (b : Bool) (n : Nat) : (sg b n).natAbs = n := by cases b <;> simp [sg]
theorem sg_self (z : Int) : sg (decide (z < 0)) z.natAbs = z := by
  by_cases h : z < 0
  · rw [decide_eq_true h, sg_t]; omega
  · rw [decide_eq_false h, sg_f]; omega
theorem sg_canon (z : Int) : sg (decide (z < 0)) (val (digs z.natAbs)) = z := by rw [val_digs, sg_self]
theorem sg_pos (n : Nat) : sg false (val (digs n)) = (n : Int) := by rw [val_digs, sg_f]
theorem sg_neg (b : Bool) (n : Nat) : sg (!b) n = -sg b n := by cases b <;> simp [sg]
theorem sg_add (b : Bool) (m n : Nat) : sg b (m + n) = sg b m + sg b n := by cases b <;> simp only [sg] <;> omega
theorem sg_zero (b : Bool) : sg b 0 = 0 := by cases b <;> rfl
theorem sg_mul (a b : Bool) (m n : Nat) : sg (a != b) (m * n) = sg a m * sg b n := by cases a <;> cases b <;> simp [sg, Int.neg_mul, Int.mul_neg]
theorem sg_eq_zero {b : Bool} {n : Nat} : sg b n = 0 ↔ n = 0 := by cases b <;> simp only [sg] <;> omega
theorem sg_lt {b : Bool} {n : Nat} : sg b n < 0 ↔ b = true ∧ 0 < n := by
  cases b
  · simp only [sg, Bool.false_eq_true, false_and, iff_false]; omega
  · simp only [sg, true_and]; omega
/-- lengths -/
def il (z : Int) : Nat := (digs z.natAbs).length
theorem il_le {b : Bool} {x : List Nat} {z : Int} (hx : Lm x) (h : sg b (val x) = z) : (digs z.natAbs).length ≤ x.length := by
  rw [← h, sg_abs]; exact len_le_of hx
theorem il_of {z : Int} {n : Nat} (h : z.natAbs ≤ n) : (digs z.natAbs).length ≤ (digs n).length := len_mono h
theorem il_neg (z : Int) : (digs (-z).natAbs).length = (digs z.natAbs).length := by rw [Int.natAbs_neg]
theorem il_add (a b : Int) : (digs (a + b).natAbs).length ≤ max (digs a.natAbs).length (digs b.natAbs).length + 1 :=
  Nat.le_trans (len_mono (Int.natAbs_add_le a b)) (len_add _ _)
theorem il_mul (a b : Int) : (digs (a * b).natAbs).length ≤ (digs a.natAbs).length + (digs b.natAbs).length := by
  rw [Int.natAbs_mul]; exact len_mul _ _

/-- Euclidean division from that of the sizes -/
theorem ediv_sizes (a b : Int) (hb : b ≠ 0) :
    (a < 0 ∧ a.natAbs % b.natAbs ≠ 0 → a / b = sg (decide (a < 0) != decide (b < 0)) (a.natAbs / b.natAbs) + (if b < 0 then 1 else -1) ∧ a % b = -((a.natAbs % b.natAbs : Nat) : Int) + (b.natAbs : Int)) ∧
    (¬ (a < 0 ∧ a.natAbs % b.natAbs ≠ 0) → a / b = sg (decide (a < 0) != decide (b < 0)) (a.natAbs / b.natAbs) ∧ a % b = ((a.natAbs % b.natAbs : Nat) : Int)) := by
  have hq := Nat.div_add_mod a.natAbs b.natAbs
  have hm := Nat.mod_lt a.natAbs (show b.natAbs > 0 by omega)
  generalize a.natAbs / b.natAbs = q at *
  generalize a.natAbs % b.natAbs = r at *
  have key : ∀ q' r' : Int, b * q' + r' = a → 0 ≤ r' → r' < b.natAbs → a / b = q' ∧ a % b = r' := by
    intro q' r' h1 h2 h3
    by_cases hb0 : b < 0
    · exact (Int.ediv_emod_unique' hb0).2 ⟨by omega, h2, by omega⟩
    · exact (Int.ediv_emod_unique (show 0 < b by omega)).2 ⟨by omega, h2, by omega⟩
  have hab : ((a.natAbs : Nat) : Int) = (b.natAbs : Int) * q + r := by exact_mod_cast hq.symm
  constructor
  · rintro ⟨ha, hr⟩
    refine key _ _ ?_ (by omega) (by omega)
    rw [decide_eq_true ha]
    by_cases hb0 : b < 0
    · rw [decide_eq_true hb0, if_pos hb0]
      have e1 : (b.natAbs : Int) = -b := by omega
      have e2 : (a.natAbs : Int) = -a := by omega
      rw [e1, e2] at hab
      rw [show (true != true) = false from rfl, sg_f, Int.mul_add, Int.mul_one, e1]
      rw [Int.neg_mul] at hab
      omega
    · rw [decide_eq_false hb0, if_neg hb0]
      have e1 : (b.natAbs : Int) = b := by omega
      have e2 : (a.natAbs : Int) = -a := by omega
      rw [e1, e2] at hab
      rw [show (true != false) = true from rfl, sg_t, Int.mul_add, e1, Int.mul_neg, Int.mul_neg, Int.mul_one]
      omega
  · intro h
    refine key _ _ ?_ (by omega) (by omega)
    by_cases ha : a < 0
    · have hr : r = 0 := by rcases Nat.eq_zero_or_pos r with h0 | h0; exact h0; exact absurd ⟨ha, by omega⟩ h
      subst hr
      rw [decide_eq_true ha]
      by_cases hb0 : b < 0
      · rw [decide_eq_true hb0]
        have e1 : (b.natAbs : Int) = -b := by omega
        have e2 : (a.natAbs : Int) = -a := by omega
        rw [e1, e2, Int.neg_mul] at hab
        rw [show (true != true) = false from rfl, sg_f]
        omega
      · rw [decide_eq_false hb0]
        have e1 : (b.natAbs : Int) = b := by omega
        have e2 : (a.natAbs : Int) = -a := by omega
        rw [e1, e2] at hab
        rw [show (true != false) = true from rfl, sg_t, Int.mul_neg]
        omega
    · rw [decide_eq_false ha]
      by_cases hb0 : b < 0
      · rw [decide_eq_true hb0]
        have e1 : (b.natAbs : Int) = -b := by omega
        have e2 : (a.natAbs : Int) = a := by omega
        rw [e1, e2, Int.neg_mul] at hab
        rw [show (false != true) = true from rfl, sg_t, Int.mul_neg]
        omega
      · rw [decide_eq_false hb0]
        have e1 : (b.natAbs : Int) = b := by omega
        have e2 : (a.natAbs : Int) = a := by omega
        rw [e1, e2] at hab
        rw [show (false != false) = false from rfl, sg_f]
        omega

/-- fractions -/
def ratOf (b : Bool) (n d : Nat) : Rat := Rat.divInt (sg b n) (d : Int)
theorem ratOf_self (q : Rat) : ratOf (decide (q.num < 0)) q.num.natAbs q.den = q := by unfold ratOf; rw [sg_self, Rat.num_divInt_den]
theorem ratOf_canon (q : Rat) : ratOf (decide (q.num < 0)) (val (digs q.num.natAbs)) (val (digs q.den)) = q := by rw [val_digs, val_digs, ratOf_self]
theorem divInt_le {a b : Int} : (Rat.divInt a b).num.natAbs ≤ a.natAbs := by
  rw [Rat.num_divInt]
  refine Nat.le_trans (Int.natAbs_ediv_le_natAbs _ _) ?_
  rw [Int.natAbs_mul]
  have : b.sign.natAbs ≤ 1 := by
    rcases Int.lt_trichotomy b 0 with h | h | h
    · rw [Int.sign_eq_neg_one_of_neg h]; decide
    · rw [h]; decide
    · rw [Int.sign_eq_one_of_pos h]; decide
  calc b.sign.natAbs * a.natAbs ≤ 1 * a.natAbs := Nat.mul_le_mul_right _ this
    _ = a.natAbs := Nat.one_mul _
theorem divInt_den_le {a b : Int} : (Rat.divInt a b).den ≤ b.natAbs ∨ (Rat.divInt a b).den = 1 := by
  rw [Rat.den_divInt]
  split
  · exact .inr rfl
  · exact .inl (Nat.div_le_self _ _)
theorem len_one : (digs 1).length = 1 := rfl
theorem rl_num {a b : Int} : (digs (Rat.divInt a b).num.natAbs).length ≤ (digs a.natAbs).length := len_mono divInt_le
theorem rl_den {a b : Int} : (digs (Rat.divInt a b).den).length ≤ max (digs b.natAbs).length 1 := by
  rcases divInt_den_le (a := a) (b := b) with h | h
  · have h2 : (digs (Rat.divInt a b).den).length ≤ (digs b.natAbs).length := len_mono h
    omega
  · rw [h, len_one]; omega
end Go.Vm
namespace Go.Vm
/-- making a canonical integer -/
theorem mk_t {s : Bool} {n : Nat} {z : Int} (h : sg s n = z) (hs : s = true) : decide ((0 : Int) < (((digs n).length : Nat) : Int)) = decide (z < 0) := by
  subst hs
  rw [← h]
  have := len_zero (n := n)
  unfold len at this
  refine decide_eq_decide.2 ?_
  rw [sg_t]
  omega
theorem mk_f {s : Bool} {n : Nat} {z : Int} (h : sg s n = z) (hs : s = false) : false = decide (z < 0) := by
  subst hs
  rw [← h, sg_f]
  exact (decide_eq_false (by omega)).symm
theorem mk_abs {s : Bool} {n : Nat} {z : Int} (h : sg s n = z) : digs n = digs z.natAbs := by rw [← h, sg_abs]
theorem dl_val {x : List Nat} (h : Lm x) : (digs (val x)).length ≤ x.length := len_le_of h
theorem dl_add (a b : Nat) : (digs (a + b)).length ≤ max (digs a).length (digs b).length + 1 := len_add a b
theorem dl_mul (a b : Nat) : (digs (a * b)).length ≤ (digs a).length + (digs b).length := len_mul a b
theorem dl_sub (a b : Nat) : (digs (a - b)).length ≤ (digs a).length := len_mono (Nat.sub_le a b)
theorem dl_div (a b : Nat) : (digs (a / b)).length ≤ (digs a).length := len_mono (Nat.div_le_self a b)
theorem dl_modZ (a b : Nat) : (digs (modZ a b)).length ≤ (digs b).length := by
  unfold modZ
  split
  · exact Nat.zero_le _
  · exact len_mono (Nat.le_of_lt (Nat.mod_lt _ (by omega)))
theorem dl_modZ' (a b : Nat) : (digs (modZ a b)).length ≤ (digs a).length := by
  unfold modZ
  split
  · exact Nat.zero_le _
  · exact len_mono (Nat.mod_le _ _)
theorem dl_gcd (a b : Nat) : (digs (Nat.gcd a b)).length ≤ max (digs a).length (digs b).length := by
  rcases Nat.eq_zero_or_pos a with h | h
  · rw [h, Nat.gcd_zero_left]; omega
  · have : (digs (Nat.gcd a b)).length ≤ (digs a).length := len_mono (Nat.le_of_dvd h (Nat.gcd_dvd_left a b))
    omega
end Go.Vm
namespace Go.Vm
theorem dl_u64 {n : Nat} (h : n < 18446744073709551616) : (digs n).length ≤ 2 := len_u64.1 h
/-- Euclidean division, as the reference makes it -/
theorem idiv_law {sx sy : Bool} {x y : Nat} {zx zy Q R : Int} (ex : sg sx x = zx) (ey : sg sy y = zy) (hy : y ≠ 0) (hQ : sg (sx != sy) (x / y) = Q) (hR : sg sx (x % y) = R) :
    (R < 0 → (sy = true → zx / zy = Q + 1) ∧ (sy = false → zx / zy = Q - 1) ∧ zx % zy = R + (zy.natAbs : Int)) ∧ (¬ R < 0 → zx / zy = Q ∧ zx % zy = R) := by
  have hm := Nat.mod_lt x (Nat.pos_of_ne_zero hy)
  have hd := Nat.div_add_mod x y
  have hid : R + zy * Q = zx := by
    rw [← hR, ← hQ, ← ey, ← ex, ← sg_mul]
    have e : (sy != (sx != sy)) = sx := by cases sx <;> cases sy <;> rfl
    rw [e, ← sg_add]
    congr 1
    omega
  have hza : zy.natAbs = y := by rw [← ey, sg_abs]
  have hRa : R.natAbs = x % y := by rw [← hR, sg_abs]
  have key : ∀ q r : Int, r + zy * q = zx → 0 ≤ r → r < zy.natAbs → zx / zy = q ∧ zx % zy = r := by
    intro q r h1 h2 h3
    by_cases h0 : zy < 0
    · exact (Int.ediv_emod_unique' h0).2 ⟨h1, h2, by omega⟩
    · exact (Int.ediv_emod_unique (show 0 < zy by omega)).2 ⟨h1, h2, by omega⟩
  constructor
  · intro hneg
    refine ⟨fun hs => ?_, fun hs => ?_, ?_⟩
    · subst hs
      rw [sg_t] at ey
      exact (key (Q + 1) (R - zy) (by rw [Int.mul_add]; omega) (by omega) (by omega)).1
    · subst hs
      rw [sg_f] at ey
      exact (key (Q - 1) (R + zy) (by rw [Int.mul_sub]; omega) (by omega) (by omega)).1
    · cases sy
      · rw [sg_f] at ey
        rw [(key (Q - 1) (R + zy) (by rw [Int.mul_sub]; omega) (by omega) (by omega)).2]
        omega
      · rw [sg_t] at ey
        rw [(key (Q + 1) (R - zy) (by rw [Int.mul_add]; omega) (by omega) (by omega)).2]
        omega
  · intro hn
    exact key Q R hid (by omega) (by omega)
def modI (a b : Int) : Int := if b = 0 then 0 else a % b
theorem il_modI (a b : Int) : (digs (modI a b).natAbs).length ≤ (digs b.natAbs).length := by
  unfold modI
  split
  · exact Nat.zero_le _
  · rename_i h
    have h1 := Int.emod_nonneg a h
    have h2 := Int.emod_lt a h
    exact len_mono (by omega)
/-- canonical fractions -/
theorem make_law {zx zy : Int} (h : zy ≠ 0) : (zy / ((Int.gcd zx zy : Nat) : Int) < 0 → (Rat.divInt zx zy).num = -(zx / ((Int.gcd zx zy : Nat) : Int)) ∧ (Rat.divInt zx zy).den = (-(zy / ((Int.gcd zx zy : Nat) : Int))).natAbs) ∧
    (¬ zy / ((Int.gcd zx zy : Nat) : Int) < 0 → (Rat.divInt zx zy).num = zx / ((Int.gcd zx zy : Nat) : Int) ∧ (Rat.divInt zx zy).den = (zy / ((Int.gcd zx zy : Nat) : Int)).natAbs) := by
  have hg : 0 < Int.gcd zx zy := Int.gcd_pos_of_ne_zero_right _ h
  have hd1 : ((Int.gcd zx zy : Nat) : Int) ∣ zx := Int.gcd_dvd_left ..
  have hd2 : ((Int.gcd zx zy : Nat) : Int) ∣ zy := Int.gcd_dvd_right ..
  rw [Rat.num_divInt, Rat.den_divInt, if_neg h, Int.gcd_comm zy zx]
  obtain ⟨a, ha⟩ := hd1
  obtain ⟨b, hb⟩ := hd2
  generalize Int.gcd zx zy = g at *
  have hg' : (g : Int) ≠ 0 := by omega
  have e1 : zx / (g : Int) = a := by rw [ha, Int.mul_ediv_cancel_left _ hg']
  have e2 : zy / (g : Int) = b := by rw [hb, Int.mul_ediv_cancel_left _ hg']
  have e3 : zy.natAbs / g = b.natAbs := by rw [hb, Int.natAbs_mul, Int.natAbs_natCast, Nat.mul_div_cancel_left _ hg]
  rw [e1, e2, e3]
  constructor
  · intro hn
    have hz : zy < 0 := by rw [hb]; exact Int.mul_neg_of_pos_of_neg (by omega) hn
    rw [Int.sign_eq_neg_one_of_neg hz]
    refine ⟨?_, by rw [Int.natAbs_neg]⟩
    rw [ha, show (-1 : Int) * ((g : Int) * a) = (g : Int) * (-a) by rw [Int.neg_one_mul, Int.mul_neg], Int.mul_ediv_cancel_left _ hg']
  · intro hn
    have hb0 : 0 < b := by
      rcases Int.lt_trichotomy b 0 with h1 | h1 | h1
      · exact absurd h1 hn
      · rw [h1, Int.mul_zero] at hb; exact absurd hb h
      · exact h1
    have hz : 0 < zy := by rw [hb]; exact Int.mul_pos (by omega) hb0
    rw [Int.sign_eq_one_of_pos hz, Int.one_mul, ha, Int.mul_ediv_cancel_left _ hg']
    exact ⟨rfl, rfl⟩
theorem divInt_one (z : Int) : (Rat.divInt z 1).num = z ∧ (Rat.divInt z 1).den = 1 := by
  rw [Rat.num_divInt, Rat.den_divInt]
  simp
theorem radd_law (a b : Rat) : Rat.divInt (a.num * (b.den : Int) + b.num * (a.den : Int)) ((a.den : Int) * (b.den : Int)) = a + b := by
  have h1 : (a.den : Int) ≠ 0 := by have := a.den_nz; omega
  have h2 : (b.den : Int) ≠ 0 := by have := b.den_nz; omega
  rw [← Rat.divInt_add_divInt _ _ h1 h2, Rat.num_divInt_den, Rat.num_divInt_den]
theorem rmul_law (a b : Rat) : Rat.divInt (a.num * b.num) ((a.den : Int) * (b.den : Int)) = a * b := by
  rw [← Rat.divInt_mul_divInt, Rat.num_divInt_den, Rat.num_divInt_den]
theorem rneg_law (a : Rat) : Rat.divInt (-a.num) (a.den : Int) = -a := by
  rw [← Rat.neg_divInt, Rat.num_divInt_den]
theorem rdiv_law (a b : Rat) : Rat.divInt (a.num * (b.den : Int)) ((a.den : Int) * b.num) = a / b := by
  rw [Rat.div_def, Rat.inv_def, ← Rat.divInt_mul_divInt, Rat.num_divInt_den]
theorem int_law (z : Int) : Rat.divInt z 1 = (z : Rat) := by
  apply Rat.ext
  · rw [(divInt_one z).1]; rfl
  · rw [(divInt_one z).2]; rfl
theorem ratOf_pos (b : Bool) (n d : Nat) : Rat.divInt (sg b n) (sg false d) = ratOf b n d := rfl
theorem rl_of {b : Bool} {x d : List Nat} {q : Rat} (hx : Lm x) (hd : Lm d) (h : ratOf b (val x) (val d) = q) : (digs q.num.natAbs).length ≤ x.length ∧ (digs q.den).length ≤ d.length + 1 := by
  rw [← h]
  unfold ratOf
  have h1 := rl_num (a := sg b (val x)) (b := ((val d : Nat) : Int))
  have h2 := rl_den (a := sg b (val x)) (b := ((val d : Nat) : Int))
  rw [sg_abs] at h1
  rw [Int.natAbs_natCast] at h2
  have h3 := dl_val hx
  have h4 := dl_val hd
  omega
theorem den_one (q : Rat) : 1 ≤ (digs q.den).length := by
  have h := len_zero (n := q.den)
  unfold len at h
  have := q.den_nz
  omega
end Go.Vm
namespace Go.Vm
theorem rdiv_zero (q : Rat) : ratOf false (val []) (val []) = q / 0 := by
  rw [Rat.div_def, Rat.inv_zero, Rat.mul_zero]; rfl
end Go.Vm
namespace Go.Vm
theorem il_ediv (a b : Int) : (digs (a / b).natAbs).length ≤ (digs a.natAbs).length := len_mono (Int.natAbs_ediv_le_natAbs a b)
end Go.Vm
