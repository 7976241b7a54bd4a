/-
  PLAIN LAWS OF STABLE SORTING: lists only, no program.
-/
import Derived.Test.YtppgppnkhpjlpaaVgg
namespace Go.Vm
variable {α : Type}

def Srt (key : α → Int) (l : List α) : Prop := l.Pairwise fun x y => key x ≤ key y
/-- the same elements, those of one key in the same order -/
def StE (key : α → Int) (l l' : List α) : Prop := ∀ k : Int, l.filter (fun x => key x == k) = l'.filter (fun x => key x == k)

theorem StE.refl (key : α → Int) (l : List α) : StE key l l := fun _ => rfl
theorem StE.symm {key : α → Int} {l l' : List α} (h : StE key l l') : StE key l' l := fun k => (h k).symm
theorem StE.trans {key : α → Int} {a b c : List α} (h : StE key a b) (h' : StE key b c) : StE key a c := fun k => (h k).trans (h' k)
theorem StE.append {key : α → Int} {a a' b b' : List α} (h : StE key a a') (h' : StE key b b') : StE key (a ++ b) (a' ++ b') := fun k => by
  rw [List.filter_append, List.filter_append, h k, h' k]
theorem StE.swap {key : α → Int} {a b : List α} (h : ∀ x ∈ a, ∀ y ∈ b, key x ≠ key y) : StE key (a ++ b) (b ++ a) := fun k => by
  rw [List.filter_append, List.filter_append]
  by_cases ha : a.filter (fun x => key x == k) = []
  · rw [ha]; simp
  · have hb : b.filter (fun x => key x == k) = [] := by
      rw [List.filter_eq_nil_iff]
      intro y hy hk
      obtain ⟨x, hx⟩ := List.exists_mem_of_ne_nil _ ha
      rw [List.mem_filter] at hx
      have h1 : key x = k := by simpa using hx.2
      have h2 : key y = k := by simpa using hk
      exact h x hx.1 y hy (by rw [h1, h2])
    rw [hb]; simp
theorem StE.mem {key : α → Int} {l l' : List α} (h : StE key l l') {x : α} (hx : x ∈ l) : x ∈ l' := by
  have h1 : x ∈ l.filter (fun y => key y == key x) := by rw [List.mem_filter]; exact ⟨hx, by simp⟩
  rw [h (key x), List.mem_filter] at h1
  exact h1.1
theorem StE.perm [DecidableEq α] {key : α → Int} {l l' : List α} (h : StE key l l') : l.Perm l' := by
  rw [List.perm_iff_count]
  intro x
  have e : ∀ m : List α, m.count x = (m.filter (fun y => key y == key x)).count x := fun m => by
    rw [List.count_filter (by simp)]
  rw [e l, e l', h (key x)]
theorem StE.length {key : α → Int} {l l' : List α} (h : StE key l l') : l.length = l'.length := by
  -- by the number of keys that are met
  suffices H : ∀ n (l l' : List α), l.length ≤ n → StE key l l' → l.length = l'.length from H l.length l l' (Nat.le_refl _) h
  intro n
  induction n with
  | zero =>
    intro l l' hn h
    have hl : l = [] := List.eq_nil_of_length_eq_zero (by omega)
    subst hl
    cases l' with
    | nil => rfl
    | cons y t => have := h.symm.mem (x := y) (by simp); simp at this
  | succ n ih =>
    intro l l' hn h
    cases l with
    | nil =>
      cases l' with
      | nil => rfl
      | cons y t => have := h.symm.mem (x := y) (by simp); simp at this
    | cons x t =>
      have part : ∀ m : List α, m.length = (m.filter (fun y => key y == key x)).length + (m.filter (fun y => !(key y == key x))).length := fun m => by
        induction m with
        | nil => rfl
        | cons a m ihm =>
          by_cases ha : key a == key x
          · simp [List.filter_cons, ha]; omega
          · simp [List.filter_cons, ha]; omega
      rw [part (x :: t), part l', h (key x)]
      congr 1
      refine ih _ _ ?_ ?_
      · have := List.length_filter_le (fun y => !(key y == key x)) t
        simp [List.filter_cons] at *
        omega
      · intro k
        rw [List.filter_filter, List.filter_filter]
        by_cases hk : k = key x
        · have e : ∀ m : List α, m.filter (fun a => (key a == k) && !(key a == key x)) = [] := fun m => by
            rw [List.filter_eq_nil_iff]; intro a _; simp; intro h1; rw [h1, hk]
          rw [e, e]
        · have e : ∀ m : List α, m.filter (fun a => (key a == k) && !(key a == key x)) = m.filter (fun a => key a == k) := fun m => by
            apply List.filter_congr
            intro a _
            by_cases h1 : key a = k
            · simp [h1, hk]
            · simp [h1]
          rw [e, e]
          exact h k

theorem Srt.append {key : α → Int} {a b : List α} (ha : Srt key a) (hb : Srt key b) (h : ∀ x ∈ a, ∀ y ∈ b, key x ≤ key y) : Srt key (a ++ b) := List.pairwise_append.2 ⟨ha, hb, h⟩
theorem Srt.left {key : α → Int} {a b : List α} (h : Srt key (a ++ b)) : Srt key a := (List.pairwise_append.1 h).1
theorem Srt.right {key : α → Int} {a b : List α} (h : Srt key (a ++ b)) : Srt key b := (List.pairwise_append.1 h).2.1
theorem Srt.le {key : α → Int} {a b : List α} (h : Srt key (a ++ b)) {x y : α} (hx : x ∈ a) (hy : y ∈ b) : key x ≤ key y := (List.pairwise_append.1 h).2.2 x hx y hy
theorem Srt.one (key : α → Int) (x : α) : Srt key [x] := List.pairwise_singleton _ _
theorem Srt.nil (key : α → Int) : Srt key [] := List.Pairwise.nil

/-- exchange of places i and j -/
def swp [Inhabited α] (xs : List α) (i j : Nat) : List α := (xs.set i (xs.getD j default)).set j (xs.getD i default)
def swpR [Inhabited α] (xs : List α) (a b : Nat) : Nat → List α
  | 0 => xs
  | n + 1 => swp (swpR xs a b n) (a + n) (b + n)

theorem length_swp [Inhabited α] (xs : List α) (i j : Nat) : (swp xs i j).length = xs.length := by simp [swp]
theorem length_swpR [Inhabited α] (xs : List α) (a b n : Nat) : (swpR xs a b n).length = xs.length := by
  induction n with
  | zero => rfl
  | succ n ih => rw [swpR, length_swp, ih]
theorem mem_swp [Inhabited α] {xs : List α} {i j : Nat} (hi : i < xs.length) (hj : j < xs.length) {x : α} (h : x ∈ swp xs i j) : x ∈ xs := by
  unfold swp at h
  rcases List.mem_or_eq_of_mem_set h with h | h
  · rcases List.mem_or_eq_of_mem_set h with h | h
    · exact h
    · rw [h]; simp [hj]
  · rw [h]; simp [hi]

/-- two neighbours -/
theorem swp_next [Inhabited α] (A B : List α) (x y : α) (i j : Nat) (hi : i = A.length) (hj : j = A.length + 1) : swp (A ++ x :: y :: B) i j = A ++ y :: x :: B := by
  subst hi hj
  have e1 : (A ++ x :: y :: B).getD (A.length + 1) default = y := by simp [List.getD_eq_getElem?_getD, List.getElem?_append_right]
  have e2 : (A ++ x :: y :: B).getD A.length default = x := by simp [List.getD_eq_getElem?_getD, List.getElem?_append_right]
  unfold swp
  rw [e1, e2, List.set_append_right _ _ (Nat.le_refl _), List.set_append_right _ _ (by omega)]
  simp
theorem swp_next' [Inhabited α] (A B : List α) (x y : α) (i j : Nat) (hi : i = A.length) (hj : j = A.length + 1) : swp (A ++ x :: y :: B) j i = A ++ y :: x :: B := by
  subst hi hj
  have e1 : (A ++ x :: y :: B).getD (A.length + 1) default = y := by simp [List.getD_eq_getElem?_getD, List.getElem?_append_right]
  have e2 : (A ++ x :: y :: B).getD A.length default = x := by simp [List.getD_eq_getElem?_getD, List.getElem?_append_right]
  unfold swp
  rw [e1, e2, List.set_append_right _ _ (by omega), List.set_append_right _ _ (Nat.le_refl _)]
  simp

theorem getElem?_swp [Inhabited α] (xs : List α) (i j k : Nat) (hi : i < xs.length) (hj : j < xs.length) : (swp xs i j)[k]? = if k = j then xs[i]? else if k = i then xs[j]? else xs[k]? := by
  unfold swp
  rw [List.getElem?_set, List.getElem?_set]
  simp only [List.length_set]
  by_cases h1 : k = j
  · subst h1; simp [hj, hi]
  · by_cases h2 : k = i
    · subst h2; simp [hi, hj, Ne.symm h1, h1]
    · simp [Ne.symm h1, Ne.symm h2, h1, h2]

theorem getElem?_swpR [Inhabited α] (xs : List α) (a b n k : Nat) (h1 : a + n ≤ b) (h2 : b + n ≤ xs.length) :
    (swpR xs a b n)[k]? = if a ≤ k ∧ k < a + n then xs[k - a + b]? else if b ≤ k ∧ k < b + n then xs[k - b + a]? else xs[k]? := by
  induction n generalizing k with
  | zero =>
    simp only [swpR, Nat.add_zero]
    rw [if_neg (by omega), if_neg (by omega)]
  | succ n ih =>
    rw [swpR, getElem?_swp _ _ _ _ (by rw [length_swpR]; omega) (by rw [length_swpR]; omega)]
    have e := fun q => ih q (by omega) (by omega)
    simp only [e]
    by_cases c1 : k = b + n
    · subst c1
      rw [if_pos rfl, if_neg (by omega), if_neg (by omega), if_neg (by omega), if_pos (by omega)]
      congr 1; omega
    · rw [if_neg c1]
      by_cases c2 : k = a + n
      · subst c2
        rw [if_pos rfl, if_neg (by omega), if_neg (by omega), if_pos (by omega)]
        congr 1; omega
      · rw [if_neg c2]
        by_cases c3 : a ≤ k ∧ k < a + n
        · have d1 : a ≤ k ∧ k < a + (n + 1) := by omega
          rw [if_pos c3, if_pos d1]
        · have d1 : ¬ (a ≤ k ∧ k < a + (n + 1)) := by omega
          rw [if_neg c3, if_neg d1]
          by_cases c4 : b ≤ k ∧ k < b + n
          · have d2 : b ≤ k ∧ k < b + (n + 1) := by omega
            rw [if_pos c4, if_pos d2]
          · have d2 : ¬ (b ≤ k ∧ k < b + (n + 1)) := by omega
            rw [if_neg c4, if_neg d2]

theorem swpR_blocks [Inhabited α] (A L M R B : List α) (a b n : Nat) (ha : a = A.length) (hb : b = A.length + L.length + M.length) (hL : L.length = n) (hR : R.length = n) :
    swpR (A ++ L ++ M ++ R ++ B) a b n = A ++ R ++ M ++ L ++ B := by
  subst ha hb
  apply List.ext_getElem?
  intro k
  rw [getElem?_swpR _ _ _ _ _ (by omega) (by simp; omega)]
  simp only [List.append_assoc]
  by_cases c1 : k < A.length
  · rw [if_neg (by omega), if_neg (by omega), List.getElem?_append_left c1, List.getElem?_append_left c1]
  · by_cases c2 : k < A.length + n
    · rw [if_pos (by omega), List.getElem?_append_right (l₁ := A) (i := k) (by omega), List.getElem?_append_left (l₁ := R) (by omega),
        List.getElem?_append_right (by omega), List.getElem?_append_right (by omega), List.getElem?_append_right (by omega), List.getElem?_append_left (by omega)]
      congr 1; omega
    · by_cases c3 : k < A.length + n + M.length
      · rw [if_neg (by omega), if_neg (by omega), List.getElem?_append_right (by omega), List.getElem?_append_right (by omega), List.getElem?_append_left (by omega),
          List.getElem?_append_right (by omega), List.getElem?_append_right (by omega), List.getElem?_append_left (by omega)]
        congr 1; omega
      · by_cases c4 : k < A.length + n + M.length + n
        · rw [if_neg (by omega), if_pos (by omega), List.getElem?_append_right (l₁ := A) (i := k - (A.length + L.length + M.length) + A.length) (by omega), List.getElem?_append_left (l₁ := L) (by omega),
            List.getElem?_append_right (by omega), List.getElem?_append_right (by omega), List.getElem?_append_right (by omega), List.getElem?_append_left (by omega)]
          congr 1; omega
        · rw [if_neg (by omega), if_neg (by omega), List.getElem?_append_right (by omega), List.getElem?_append_right (by omega), List.getElem?_append_right (by omega), List.getElem?_append_right (by omega),
            List.getElem?_append_right (by omega), List.getElem?_append_right (by omega), List.getElem?_append_right (by omega), List.getElem?_append_right (by omega)]
          congr 1; omega

theorem rot_gt [Inhabited α] (A P X Y S B : List α) (a m n : Nat) (ha : a = A.length + P.length) (hm : m = a + X.length) (hn : n = Y.length) (h : Y.length ≤ X.length) :
    swpR (A ++ P ++ X ++ Y ++ S ++ B) a m n = A ++ (P ++ Y) ++ X.drop Y.length ++ X.take Y.length ++ S ++ B := by
  subst ha hm hn
  have h0 := swpR_blocks (A ++ P) (X.take Y.length) (X.drop Y.length) Y (S ++ B) (A.length + P.length) (A.length + P.length + X.length) Y.length (by simp) (by simp; omega) (by simp; omega) rfl
  have e : A ++ P ++ X.take Y.length ++ X.drop Y.length ++ Y ++ (S ++ B) = A ++ P ++ X ++ Y ++ S ++ B := by
    rw [List.append_assoc (A ++ P), List.take_append_drop]; simp
  rw [e] at h0
  rw [h0]
  simp
theorem rot_lt [Inhabited α] (A P X Y S B : List α) (a m n : Nat) (ha : a = A.length + P.length) (hm : m = a + Y.length) (hn : n = X.length) (h : X.length ≤ Y.length) :
    swpR (A ++ P ++ X ++ Y ++ S ++ B) a m n = A ++ P ++ Y.drop (Y.length - X.length) ++ Y.take (Y.length - X.length) ++ (X ++ S) ++ B := by
  subst ha hm hn
  have h0 := swpR_blocks (A ++ P) X (Y.take (Y.length - X.length)) (Y.drop (Y.length - X.length)) (S ++ B) (A.length + P.length) (A.length + P.length + Y.length) X.length (by simp) (by simp; omega) rfl (by simp; omega)
  have e : A ++ P ++ X ++ Y.take (Y.length - X.length) ++ Y.drop (Y.length - X.length) ++ (S ++ B) = A ++ P ++ X ++ Y ++ S ++ B := by
    rw [List.append_assoc (A ++ P ++ X), List.take_append_drop]; simp
  rw [e] at h0
  rw [h0]
  simp

theorem set2 (A B : List α) (u v p q : α) (i j : Nat) (hi : i = A.length) (hj : j = A.length + 1) : ((A ++ u :: v :: B).set j p).set i q = A ++ q :: p :: B := by
  subst hi hj
  rw [List.set_append_right _ _ (by omega), List.set_append_right _ _ (Nat.le_refl _)]
  simp
theorem getD_mid [Inhabited α] (A B : List α) (x : α) (i : Nat) (hi : i = A.length) : (A ++ x :: B).getD i default = x := by
  subst hi
  simp [List.getD_eq_getElem?_getD]
theorem drop_cons [Inhabited α] (l : List α) (k : Nat) (h : k < l.length) : l.drop k = l.getD k default :: l.drop (k + 1) := by
  rw [List.drop_eq_getElem_cons h]
  simp [h]
theorem take_snoc [Inhabited α] (l : List α) (k : Nat) (h : k < l.length) : l.take (k + 1) = l.take k ++ [l.getD k default] := by
  rw [List.take_succ_eq_append_getElem h]
  simp [h]
theorem snoc_of (l : List α) (h : 0 < l.length) : ∃ l' y, l = l' ++ [y] :=
  ⟨l.dropLast, l.getLast (fun e => by rw [e] at h; simp at h), (List.dropLast_concat_getLast _).symm⟩
/-- an element that has come to its place -/
theorem ins_srt {key : α → Int} {S1 S2 : List α} {x : α} (h : Srt key (S1 ++ S2)) (h2 : ∀ y ∈ S2, key x < key y) (h1 : S1 = [] ∨ ∃ S3 y, S1 = S3 ++ [y] ∧ key y ≤ key x) : Srt key (S1 ++ x :: S2) := by
  have hx : Srt key (x :: S2) := List.pairwise_cons.2 ⟨fun y hy => Int.le_of_lt (h2 y hy), h.right⟩
  refine Srt.append h.left hx fun z hz y hy => ?_
  have hzx : key z ≤ key x := by
    rcases h1 with rfl | ⟨S3, u, rfl, hu⟩
    · cases hz
    · rcases List.mem_append.1 hz with hz | hz
      · exact Int.le_trans (Srt.le h.left hz (by simp)) hu
      · simp at hz; subst hz; exact hu
  rcases List.mem_cons.1 hy with rfl | hy
  · exact hzx
  · exact h.le hz hy
theorem ins_ste {key : α → Int} {S1 S2 : List α} {x : α} (h2 : ∀ y ∈ S2, key x < key y) : StE key (S1 ++ S2 ++ [x]) (S1 ++ x :: S2) := by
  rw [List.append_assoc]
  refine StE.append (StE.refl _ _) ?_
  exact StE.swap (b := [x]) fun y hy z hz => by simp at hz; subst hz; have := h2 y hy; omega

theorem getD_seg [Inhabited α] (A S B : List α) (i k : Nat) (hk : i = A.length + k) (h : k < S.length) : (A ++ S ++ B).getD i default = S.getD k default := by
  subst hk
  rw [List.getD_eq_getElem?_getD, List.getD_eq_getElem?_getD, List.append_assoc, List.getElem?_append_right (by omega), Nat.add_sub_cancel_left, List.getElem?_append_left h]
theorem getD_mem [Inhabited α] (l : List α) (k : Nat) (h : k < l.length) : l.getD k default ∈ l := by simp [h]
theorem Srt.at {key : α → Int} [Inhabited α] {l : List α} (h : Srt key l) {i j : Nat} (hij : i ≤ j) (hj : j < l.length) : key (l.getD i default) ≤ key (l.getD j default) := by
  rcases Nat.lt_or_ge i j with h1 | h1
  · have := List.pairwise_iff_getElem.1 h i j (by omega) hj h1
    simpa [hj, show i < l.length by omega] using this
  · have : i = j := by omega
    subst this
    exact Int.le_refl _
theorem mem_take_at [Inhabited α] {l : List α} {p : Nat} {z : α} (h : z ∈ l.take p) : ∃ i, i < p ∧ i < l.length ∧ z = l.getD i default := by
  obtain ⟨i, hi, e⟩ := List.mem_iff_getElem.1 h
  simp at hi
  exact ⟨i, by omega, by omega, by rw [← e]; simp [show i < l.length by omega]⟩
theorem mem_drop_at [Inhabited α] {l : List α} {p : Nat} {z : α} (h : z ∈ l.drop p) : ∃ i, p ≤ i ∧ i < l.length ∧ z = l.getD i default := by
  obtain ⟨i, hi, e⟩ := List.mem_iff_getElem.1 h
  simp at hi
  exact ⟨p + i, by omega, by omega, by rw [← e]; simp [show p + i < l.length by omega]⟩
theorem Srt.take {key : α → Int} {l : List α} (h : Srt key l) (p : Nat) : Srt key (l.take p) := List.Pairwise.sublist (List.take_sublist p l) h
theorem Srt.drop {key : α → Int} {l : List α} (h : Srt key l) (p : Nat) : Srt key (l.drop p) := List.Pairwise.sublist (List.drop_sublist p l) h

/-- one element into the sorted list behind it -/
theorem merge_left [Inhabited α] {key : α → Int} {R : List α} {x : α} {p : Nat} (h : Srt key R) (hp : p ≤ R.length) (h1 : p = 0 ∨ key (R.getD (p - 1) default) < key x) (h2 : p = R.length ∨ key x ≤ key (R.getD p default)) :
    Srt key (R.take p ++ x :: R.drop p) ∧ StE key (x :: R) (R.take p ++ x :: R.drop p) := by
  have lo : ∀ z ∈ R.take p, key z < key x := fun z hz => by
    obtain ⟨i, hi, hl, rfl⟩ := mem_take_at hz
    rcases h1 with rfl | h1
    · omega
    · have := h.at (i := i) (j := p - 1) (by omega) (by omega); omega
  have hi : ∀ z ∈ R.drop p, key x ≤ key z := fun z hz => by
    obtain ⟨i, hi, hl, rfl⟩ := mem_drop_at hz
    rcases h2 with rfl | h2
    · omega
    · have := h.at (i := p) (j := i) (by omega) (by omega); omega
  refine ⟨Srt.append (h.take p) (List.pairwise_cons.2 ⟨hi, h.drop p⟩) fun z hz y hy => ?_, ?_⟩
  · have h3 := lo z hz
    rcases List.mem_cons.1 hy with rfl | hy
    · omega
    · have := hi y hy; omega
  · have e : x :: R = ([x] ++ R.take p) ++ R.drop p := by simp
    have e2 : R.take p ++ x :: R.drop p = (R.take p ++ [x]) ++ R.drop p := by simp
    rw [e, e2]
    exact StE.append (StE.swap fun a ha b hb => by simp at ha; subst ha; have := lo b hb; omega) (StE.refl _ _)
/-- one element into the sorted list ahead of it -/
theorem merge_right [Inhabited α] {key : α → Int} {L : List α} {y : α} {q : Nat} (h : Srt key L) (hq : q ≤ L.length) (h1 : q = 0 ∨ key (L.getD (q - 1) default) ≤ key y) (h2 : q = L.length ∨ key y < key (L.getD q default)) :
    Srt key (L.take q ++ y :: L.drop q) ∧ StE key (L ++ [y]) (L.take q ++ y :: L.drop q) := by
  have lo : ∀ z ∈ L.take q, key z ≤ key y := fun z hz => by
    obtain ⟨i, hi, hl, rfl⟩ := mem_take_at hz
    rcases h1 with rfl | h1
    · omega
    · have := h.at (i := i) (j := q - 1) (by omega) (by omega); omega
  have hi : ∀ z ∈ L.drop q, key y < key z := fun z hz => by
    obtain ⟨i, hi, hl, rfl⟩ := mem_drop_at hz
    rcases h2 with rfl | h2
    · omega
    · have := h.at (i := q) (j := i) (by omega) (by omega); omega
  refine ⟨Srt.append (h.take q) (List.pairwise_cons.2 ⟨fun z hz => by have := hi z hz; omega, h.drop q⟩) fun z hz u hu => ?_, ?_⟩
  · have h3 := lo z hz
    rcases List.mem_cons.1 hu with rfl | hu
    · exact h3
    · have := hi u hu; omega
  · have e : L ++ [y] = L.take q ++ (L.drop q ++ [y]) := by rw [← List.append_assoc, List.take_append_drop]
    rw [e]
    exact StE.append (StE.refl _ _) (StE.swap (b := [y]) fun a ha b hb => by simp at hb; subst hb; have := hi a ha; omega)
/-- the parting of two sorted lists -/
theorem sym_parts [Inhabited α] {key : α → Int} {L R M1 M2 : List α} {u v : Nat} (hL : Srt key L) (hR : Srt key R) (hu : u ≤ L.length) (hv : v ≤ R.length)
    (h1 : u = 0 ∨ v = R.length ∨ key (L.getD (u - 1) default) ≤ key (R.getD v default)) (h2 : u = L.length ∨ v = 0 ∨ key (R.getD (v - 1) default) < key (L.getD u default))
    (s1 : Srt key M1) (e1 : StE key (L.take u ++ R.take v) M1) (s2 : Srt key M2) (e2 : StE key (L.drop u ++ R.drop v) M2) :
    Srt key (M1 ++ M2) ∧ StE key (L ++ R) (M1 ++ M2) := by
  have lt : ∀ a ∈ L.drop u, ∀ b ∈ R.take v, key b < key a := fun a ha b hb => by
    obtain ⟨i, hi, hil, rfl⟩ := mem_drop_at ha
    obtain ⟨j, hj, hjl, rfl⟩ := mem_take_at hb
    rcases h2 with rfl | rfl | h2
    · omega
    · omega
    · have q1 := hL.at (i := u) (j := i) (by omega) (by omega)
      have q2 := hR.at (i := j) (j := v - 1) (by omega) (by omega)
      omega
  have le : ∀ a ∈ L.take u, ∀ b ∈ R.drop v, key a ≤ key b := fun a ha b hb => by
    obtain ⟨i, hi, hil, rfl⟩ := mem_take_at ha
    obtain ⟨j, hj, hjl, rfl⟩ := mem_drop_at hb
    rcases h1 with rfl | rfl | h1
    · omega
    · omega
    · have q1 := hL.at (i := i) (j := u - 1) (by omega) (by omega)
      have q2 := hR.at (i := v) (j := j) (by omega) (by omega)
      omega
  refine ⟨Srt.append s1 s2 fun z hz y hy => ?_, ?_⟩
  · have hz' := e1.symm.mem hz
    have hy' := e2.symm.mem hy
    rcases List.mem_append.1 hz' with hz' | hz' <;> rcases List.mem_append.1 hy' with hy' | hy'
    · have := hL; rw [← List.take_append_drop u L] at this; exact this.le hz' hy'
    · exact le z hz' y hy'
    · exact Int.le_of_lt (lt y hy' z hz')
    · have := hR; rw [← List.take_append_drop v R] at this; exact this.le hz' hy'
  · have e : L ++ R = L.take u ++ (L.drop u ++ R.take v) ++ R.drop v := by
      rw [List.append_assoc, List.append_assoc, List.take_append_drop, ← List.append_assoc, List.take_append_drop]
    rw [e]
    have e3 : StE key (L.take u ++ (L.drop u ++ R.take v) ++ R.drop v) (L.take u ++ (R.take v ++ L.drop u) ++ R.drop v) :=
      StE.append (StE.append (StE.refl _ _) (StE.swap fun a ha b hb => by have := lt a ha b hb; omega)) (StE.refl _ _)
    refine e3.trans ?_
    have e4 : L.take u ++ (R.take v ++ L.drop u) ++ R.drop v = (L.take u ++ R.take v) ++ (L.drop u ++ R.drop v) := by simp
    rw [e4]
    exact StE.append e1 e2
theorem shr_one (z : Nat) : ((z : Nat) : Int).fdiv (2 ^ (min (1 : Int).toNat IntKind.u64.bits)) = ((z / 2 : Nat) : Int) := by
  have : (min (1 : Int).toNat IntKind.u64.bits) = 1 := by decide
  rw [this, Int.fdiv_eq_ediv_of_nonneg _ (by decide)]
  omega

theorem list_one [Inhabited α] (l : List α) (h : l.length = 1) : l = [l.getD 0 default] := by
  match l, h with
  | [x], _ => rfl
theorem cons_of (l : List α) (h : 0 < l.length) : ∃ v l', l = v :: l' := by
  match l, h with
  | v :: l', _ => exact ⟨v, l', rfl⟩
theorem set2' (A B : List α) (u v p q : α) (i j : Nat) (hi : i = A.length) (hj : j = A.length + 1) : ((A ++ u :: v :: B).set i p).set j q = A ++ p :: q :: B := by
  subst hi hj
  rw [List.set_append_right _ _ (Nat.le_refl _), List.set_append_right _ _ (by omega)]
  simp
theorem one_left [Inhabited α] (A L R B : List α) (p : Nat) (h : L.length = 1) : A ++ L ++ R ++ B = A ++ [] ++ L.getD 0 default :: R.take p ++ R.drop p ++ B := by
  have e := list_one L h
  generalize L.getD 0 default = x at *
  subst e
  simp
theorem one_right [Inhabited α] (A L R B : List α) (q : Nat) (h : R.length = 1) : A ++ L ++ R ++ B = A ++ L.take q ++ L.drop q ++ R.getD 0 default :: [] ++ B := by
  have e := list_one R h
  generalize R.getD 0 default = x at *
  subst e
  simp
theorem take_drop_app (l B : List α) (n : Nat) : l.take n ++ (l.drop n ++ B) = l ++ B := by rw [← List.append_assoc, List.take_append_drop]
theorem no_rot (A L R B : List α) (u v : Nat) (h : L.length ≤ u ∨ v = 0) : A ++ L ++ R ++ B = A ++ L.take u ++ R.take v ++ (L.drop u ++ R.drop v ++ B) := by
  rcases h with h | h
  · rw [List.take_of_length_le h, List.drop_of_length_le h]; simp [take_drop_app]
  · subst h; simp [take_drop_app]
theorem yes_rot (A L R B : List α) (u v : Nat) : A ++ L ++ R ++ B = (A ++ L.take u) ++ L.drop u ++ R.take v ++ (R.drop v ++ B) := by simp [take_drop_app]
theorem no_mrg {key : α → Int} {L R : List α} {u v : Nat} (hL : Srt key L) (hR : Srt key R) (h : u = 0 ∨ v = 0) : Srt key (L.take u ++ R.take v) := by
  rcases h with rfl | rfl
  · simpa using hR.take v
  · simpa using hL.take u
theorem no_mrg' {key : α → Int} {L R : List α} {u v : Nat} (hL : Srt key L) (hR : Srt key R) (h : L.length ≤ u ∨ R.length ≤ v) : Srt key (L.drop u ++ R.drop v) := by
  rcases h with h | h
  · rw [List.drop_of_length_le h]; simpa using hR.drop v
  · rw [List.drop_of_length_le h]; simpa using hL.drop u
theorem key_lt {a b : Int} (h : (if a < b then (-1 : Int) else if b < a then 1 else 0) < 0) : a < b := by
  (repeat split at h) <;> omega
theorem key_ge {a b : Int} (h : ¬ (if a < b then (-1 : Int) else if b < a then 1 else 0) < 0) : b ≤ a := by
  (repeat split at h) <;> omega

/-- sorted block by block -/
def Blk (key : α → Int) (z : Nat) (l : List α) : Prop := ∀ q, Srt key ((l.drop (q * z)).take z)
theorem Blk.nil (key : α → Int) (z : Nat) : Blk key z ([] : List α) := fun q => by simp; exact Srt.nil _
theorem Blk.snoc {key : α → Int} {z : Nat} {D S : List α} (h : Blk key z D) (hd : ∃ k, D.length = k * z) (hs : Srt key S) (hl : S.length ≤ z) : Blk key z (D ++ S) := fun q => by
  obtain ⟨k, hk⟩ := hd
  rcases Nat.lt_or_ge q k with hq | hq
  · have h1 : q * z + z ≤ k * z := by rw [← Nat.succ_mul]; exact Nat.mul_le_mul_right _ hq
    rw [List.drop_append_of_le_length (by omega), List.take_append_of_le_length (by simp; omega)]
    exact h q
  · have h1 : k * z ≤ q * z := Nat.mul_le_mul_right _ hq
    rw [List.drop_append, List.drop_of_length_le (by omega)]
    simp only [List.nil_append]
    exact (hs.drop _).take _
theorem Blk.at {key : α → Int} {z : Nat} {l : List α} (h : Blk key z l) {e : Nat} (he : ∃ k, e = k * z) : Srt key ((l.drop e).take z) := by
  obtain ⟨k, rfl⟩ := he
  exact h k
theorem Blk.rest {key : α → Int} {z : Nat} {l : List α} (h : Blk key z l) {e : Nat} (he : ∃ k, e = k * z) (hl : l.length ≤ e + z) : Srt key (l.drop e) := by
  have := h.at he
  rwa [List.take_of_length_le (by simp; omega)] at this
theorem Blk.all {key : α → Int} {z : Nat} {l : List α} (h : Blk key z l) (hl : l.length ≤ z) : Srt key l := by
  have := h.rest (e := 0) ⟨0, by simp⟩ (by omega)
  simpa using this
theorem seg_split (D l : List α) (e z : Nat) : D ++ l.drop e = D ++ (l.drop e).take z ++ l.drop (e + z) := by
  rw [List.append_assoc, ← List.drop_drop, List.take_append_drop]
theorem seg_split2 (D l : List α) (e z : Nat) : D ++ l.drop e = D ++ (l.drop e).take z ++ (l.drop (e + z)).take z ++ l.drop (e + 2 * z) := by
  rw [seg_split D l e z, seg_split _ l (e + z) z, show e + z + z = e + 2 * z by omega]
theorem take_seg (l : List α) (e z : Nat) : l.take (e + z) = l.take e ++ (l.drop e).take z := by rw [List.take_add]
theorem twice {e z : Nat} (h : ∃ k, e = k * (2 * z)) : ∃ k, e = k * z := by
  obtain ⟨k, rfl⟩ := h
  exact ⟨k * 2, by rw [Nat.mul_assoc]⟩
theorem next_mul {e z : Nat} (h : ∃ k, e = k * z) : ∃ k, e + z = k * z := by
  obtain ⟨k, rfl⟩ := h
  exact ⟨k + 1, by rw [Nat.add_mul, Nat.one_mul]⟩
end Go.Vm
