/-
  PLAIN LAWS OF THE DIVISION OF A CUT: lists and integers only.
-/
import Derived.Test.YtppgppnkhpjlpaaWc
namespace Go.Proofs.Ytppgppnkhpjlpaa
open Go.Vm Go.Vg
def qF (ls : List (Int × Int)) (part amount x : Int) : Int := (part * (ls.getD x.toNat default).1) / amount
def sumQ (ls : List (Int × Int)) (part amount : Int) (G : List Int) : Int := (G.map (qF ls part amount)).sum
def sumA (ls : List (Int × Int)) (G : List Int) : Int := (G.map fun i => (ls.getD i.toNat default).1).sum
def sets (C : List Int) (G : List Int) (q : Int → Int) : List Int := G.foldl (fun c i => c.set i.toNat (q i)) C
def incs (C : List Int) (P : List Int) : List Int := P.foldl (fun c i => c.set i.toNat (c.getD i.toNat default + 1)) C
def DivSpec (ls : List (Int × Int)) (G : List Int) (part amount : Int) (C C' : List Int) : Prop :=
  (amount = 0 ∧ C' = C) ∨ (0 < amount ∧ ∃ P, Srt (fun i => -(remF ls part amount i)) P ∧ StE (fun i => -(remF ls part amount i)) G P ∧ C' = incs (sets C G (qF ls part amount)) (P.take (part - sumQ ls part amount G).toNat))

theorem sumQ_snoc (ls : List (Int × Int)) (part amount : Int) (G : List Int) (g : Int) : sumQ ls part amount (G ++ [g]) = sumQ ls part amount G + qF ls part amount g := by simp [sumQ]
theorem sets_snoc (C G : List Int) (q : Int → Int) (g : Int) : sets C (G ++ [g]) q = (sets C G q).set g.toNat (q g) := by simp [sets]
theorem incs_snoc (C P : List Int) (g : Int) : incs C (P ++ [g]) = (incs C P).set g.toNat ((incs C P).getD g.toNat default + 1) := by simp [incs]
theorem getD_set_self {α : Type} [Inhabited α] (l : List α) (k : Nat) (x : α) (h : k < l.length) : (l.set k x).getD k default = x := by simp [h]
theorem div_bound {a b : Int} (ha : 0 ≤ a ∧ a ≤ 35184372088832) (hb : 0 < b ∧ b ≤ 33554432) : 0 ≤ a / b ∧ a / b ≤ 35184372088832 :=
  ⟨Int.ediv_nonneg ha.1 (by omega), Int.le_trans (Int.ediv_le_self _ ha.1) ha.2⟩
theorem q_bd {ls : List (Int × Int)} {part amount : Int} (hls : ∀ p ∈ ls, 0 ≤ p.1 ∧ p.1 ≤ 1048576) (hp : 0 ≤ part ∧ part ≤ 33554432) (ham : 0 < amount ∧ amount ≤ 33554432) {i : Int} (hi : 0 ≤ i ∧ i < (ls.length : Int)) : 0 ≤ qF ls part amount i ∧ qF ls part amount i ≤ 35184372088832 :=
  div_bound (mul_bound hp (hls _ (getD_mem _ _ (by omega)))) ham
theorem sets_bd {C G : List Int} {q : Int → Int} {Bd : Nat} (hCb : ∀ x ∈ C, 0 ≤ x ∧ x ≤ (Bd : Int)) (hq : ∀ i ∈ G, 0 ≤ q i ∧ q i ≤ 35184372088832) (hB : 35184372088832 ≤ Bd) : ∀ x ∈ sets C G q, 0 ≤ x ∧ x ≤ (Bd : Int) := by
  induction G generalizing C with
  | nil => exact hCb
  | cons g G ih =>
    refine ih (C := C.set g.toNat (q g)) ?_ fun i hi => hq i (by simp [hi])
    intro x hx
    rcases List.mem_or_eq_of_mem_set hx with h | h
    · exact hCb x h
    · have := hq g (by simp); rw [h]; omega
theorem incs_all {C P : List Int} {Bd : Nat} (hCb : ∀ x ∈ C, 0 ≤ x ∧ x ≤ (Bd : Int)) {m : Nat} (hm : P.length ≤ m) {x : Int} (hx : x ∈ incs C P) : 0 ≤ x ∧ x ≤ ((Bd + m : Nat) : Int) := by
  induction P generalizing C Bd m with
  | nil => have := hCb x hx; omega
  | cons g P ih =>
    have hm' : P.length ≤ m - 1 := by simp at hm; omega
    have := ih (C := C.set g.toNat (C.getD g.toNat default + 1)) (Bd := Bd + 1) ?_ hm' hx
    · simp at hm; omega
    · intro y hy
      rcases List.mem_or_eq_of_mem_set hy with h | h
      · have := hCb y h; omega
      · by_cases hl : g.toNat < C.length
        · have := hCb (C.getD g.toNat default) (getD_mem _ _ hl); omega
        · have e : C.getD g.toNat default = 0 := by simp [List.getD_eq_getElem?_getD, List.getElem?_eq_none (Nat.le_of_not_lt hl)]
          rw [h, e]; omega
theorem incs_bd {C P : List Int} {Bd : Nat} (hCb : ∀ x ∈ C, 0 ≤ x ∧ x ≤ (Bd : Int)) (hm : P.length ≤ 32) {k : Nat} (hk : k < (incs C P).length) : 0 ≤ (incs C P).getD k default ∧ (incs C P).getD k default ≤ ((Bd + 32 : Nat) : Int) :=
  incs_all hCb hm (getD_mem _ _ hk)
theorem sum_div (ls : List (Int × Int)) (part amount : Int) (G : List Int) : amount * sumQ ls part amount G + (G.map (remF ls part amount)).sum = part * sumA ls G := by
  induction G with
  | nil => simp [sumQ, sumA]
  | cons g G ih =>
    simp only [sumQ, sumA, List.map_cons, List.sum_cons] at *
    have h := Int.mul_ediv_add_emod (part * (ls.getD g.toNat default).1) amount
    rw [Int.mul_add, Int.mul_add]
    unfold qF remF at *
    omega
theorem rem_sum {ls : List (Int × Int)} {part amount : Int} (ham : 0 < amount) (G : List Int) : 0 ≤ (G.map (remF ls part amount)).sum ∧ (G.map (remF ls part amount)).sum ≤ amount * G.length - G.length := by
  induction G with
  | nil => simp
  | cons g G ih =>
    have h1 : 0 ≤ remF ls part amount g := Int.emod_nonneg _ (by omega)
    have h2 : remF ls part amount g < amount := Int.emod_lt_of_pos _ ham
    simp only [List.map_cons, List.sum_cons, List.length_cons]
    rw [Int.natCast_add, Int.mul_add]
    omega
theorem div_missing {ls : List (Int × Int)} {G : List Int} {part amount : Int} (hGr : ∀ i ∈ G, 0 ≤ i ∧ i < (ls.length : Int)) (hls : ∀ p ∈ ls, 0 ≤ p.1 ∧ p.1 ≤ 1048576) (ham : 0 < amount ∧ amount ≤ 33554432) (hp : 0 ≤ part ∧ part ≤ 33554432) (hsum : amount = sumA ls G) (hpa : part ≤ amount) :
    ∃ M : Nat, (M : Int) = part - sumQ ls part amount G ∧ M ≤ G.length := by
  have h1 := sum_div ls part amount G
  have h2 := rem_sum (ls := ls) (part := part) ham.1 G
  rw [← hsum] at h1
  obtain ⟨s, hs⟩ : ∃ s, s = sumQ ls part amount G := ⟨_, rfl⟩
  obtain ⟨r, hr⟩ : ∃ r, r = (G.map (remF ls part amount)).sum := ⟨_, rfl⟩
  rw [← hs, ← hr] at h1
  rw [← hr] at h2
  rw [← hs]
  have h3 : amount * (part - s) = r := by rw [Int.mul_sub, Int.mul_comm amount part]; omega
  have h4 : 0 ≤ part - s := by
    rcases Int.lt_or_le (part - s) 0 with h | h
    · have : amount * (part - s) < 0 := Int.mul_neg_of_pos_of_neg ham.1 h; omega
    · exact h
  have h5 : part - s ≤ G.length := by
    rcases Int.lt_or_le (G.length : Int) (part - s) with h | h
    · have : amount * (G.length : Int) < amount * (part - s) := Int.mul_lt_mul_of_pos_left h ham.1
      omega
    · exact h
  exact ⟨(part - s).toNat, by omega, by omega⟩
end Go.Proofs.Ytppgppnkhpjlpaa
