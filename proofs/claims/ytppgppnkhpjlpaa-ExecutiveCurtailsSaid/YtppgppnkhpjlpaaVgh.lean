/-
  SLICES OF STRUCTS that are read; slices of one's own that grow.
-/
import Derived.Test.YtppgppnkhpjlpaaVgg
import Derived.WalkSpells
namespace Go.Vg
open Go.RowKit

/-- a slice of structs that reads as xs: c x are the cells of x, size many -/
def Ss {α : Type} (c : α → List Value) (size : Nat) (D : Nat → TypeId → Prop) (w : World) (v : Value) (xs : List α) : Prop :=
  (0 < size ∧ ∀ x ∈ xs, (c x).length = size) ∧ Sc D w size v xs.length (xs.map c).flatten
section
variable {α : Type} {c : α → List Value} {size : Nat} {D D' : Nat → TypeId → Prop} {w w' : World} {v : Value} {xs : List α}
theorem Ss.tr (h : Ss c size D w v xs) (hs : Sm D w w') : Ss c size D w' v xs := ⟨h.1, h.2.tr hs⟩
theorem Ss.mono (h : Ss c size D w v xs) (hD : ∀ b T, D b T → D' b T) : Ss c size D' w v xs := ⟨h.1, h.2.mono hD⟩
theorem Ss.nil (hs : 0 < size) : Ss c size D w (.slice none 0 0) [] := ⟨⟨hs, by simp⟩, Sc.nil⟩
theorem Ss.len (h : Ss c size D w v xs) : ∃ A cap, v = .slice A xs.length cap ∧ xs.length ≤ cap ∧ cap ≤ 9223372036854775807 := by
  obtain ⟨A, cap, rfl, h1, h2, _⟩ := h.2
  exact ⟨A, cap, rfl, h1, by simpa [maxLen] using h2⟩
theorem flat_at {xs : List α} (hc : ∀ x ∈ xs, (c x).length = size) {k j : Nat} {x : α} {u : Value} (hk : xs[k]? = some x) (hj : (c x)[j]? = some u) : (xs.map c).flatten[k * size + j]? = some u := by
  induction xs generalizing k with
  | nil => simp at hk
  | cons y ys ih =>
    have hy : (c y).length = size := hc y (by simp)
    cases k with
    | zero =>
      simp at hk
      subst hk
      have hjl : j < (c y).length := by
        rcases Nat.lt_or_ge j (c y).length with h | h
        · exact h
        · rw [List.getElem?_eq_none h] at hj; cases hj
      simp [List.getElem?_append_left hjl, hj]
    | succ k =>
      have hk' : ys[k]? = some x := by simpa using hk
      have := ih (fun z hz => hc z (by simp [hz])) hk'
      simp only [List.map_cons, List.flatten_cons]
      rw [List.getElem?_append_right (by rw [hy, Nat.succ_mul]; omega), hy]
      rw [show (k + 1) * size + j - size = k * size + j by rw [Nat.succ_mul]; omega]
      exact this
/-- element k: all its cells -/
theorem Ss.ix [Inhabited α] (h : Ss c size D w v xs) {i : Int} (k : Nat) (hi : i = (k : Int)) (hk : k < xs.length) :
    ∃ bb o cap, v = .slice (some ⟨bb, o, none⟩) xs.length cap ∧ ∀ j u, (c (xs.getD k default))[j]? = some u → w.cell? ⟨bb, o + i.toNat * size + j, none⟩ = some u := by
  obtain ⟨⟨hs, hc⟩, A, cap, rfl, h1, h2, h3, h4⟩ := h
  subst hi
  have hx : xs[k]? = some (xs.getD k default) := by simp [hk]
  rcases h4 with h4 | ⟨bb, o, rfl, hr⟩
  · have hz : xs.length * size = 0 := by rw [← h3, h4]; rfl
    have : xs.length = 0 := by rcases Nat.mul_eq_zero.1 hz with h | h; exact h; omega
    omega
  · refine ⟨bb, o, cap, rfl, fun j u hj => ?_⟩
    have := hr.cell (flat_at hc hx hj)
    rw [Int.toNat_natCast, Nat.add_assoc]
    exact this
end

section
variable {P : Program} {f : Nat → Value} {w w' : World} {dst : Option Tmp} {ty : TypeId} {pos : String} {aft : Array Edge} {gd : Option (Nat × Bool)} {x y z : Operand} {t t' e : TypeId} {D : Nat → TypeId → Prop}
/-- a block of one's own, as a slice that is read -/
theorem Bk.sc {b n size : Nat} {l : List Value} (hb : Bk w b e l) (hd : D b e) (hl : l.length = n * size) (hn : n ≤ 9223372036854775807) : Sc D w size (.slice (some ⟨b, 0, none⟩) n n) n l :=
  ⟨_, n, rfl, Nat.le_refl _, by simpa [maxLen] using hn, hl, .inr ⟨b, 0, rfl, by have := hb.rd (D := D) (m := 0) hd; simpa using this⟩⟩
/-- a slice of one's own that has elements, as an array -/
theorem Ow.ar {α : Type} {g : α → Value} {lo n : Nat} {v : Value} {xs : List α} (h : Ow w lo e 1 v n (xs.map g)) (hn : 0 < n) : ∃ b cap, v = .slice (some ⟨b, 0, none⟩) n cap ∧ lo ≤ b ∧ n ≤ cap ∧ cap ≤ 9223372036854775807 ∧ Ar g w b e 0 xs n := by
  obtain ⟨h1, h2⟩ := h
  rcases h2 with ⟨_, rfl⟩ | ⟨b, cap, cur, rfl, hb, hh, hc, hm, hs, ht⟩
  · omega
  · refine ⟨b, cap, rfl, hb, hc, by simpa [maxLen] using hm, ⟨[], cur.toList.drop n, rfl, ?_⟩, by simpa using h1⟩
    unfold Bk
    rw [hh, ← ht]
    simp
/-- s == nil -/
theorem r_eqlnil {A : Option Addr} {n c : Nat} (ht : P.underlying t = some (.slice e)) (hx : ev f x = .slice A n c) (hy : ev f y = .slice none 0 0) : (execOp (ev f) ⟨dst, .binOp .eql t x y t', ty, pos, aft, gd⟩).run P w = .ok (.value (.bool A.isNone)) w := by
  have h : (Op.equalIn (9999 + 1) t (.slice A n c) (.slice none 0 0)).run P w = .ok A.isNone w := by
    exact Lib.run_equalIn_slice_nil w 9999 t e A n c 0 0 ht
  simp only [execOp, hx, hy, eqGuard, binOp]
  simp [Op.equal, Op.maxDepth, h]
end

section
variable {D : Nat → TypeId → Prop} {w : World} {v : Value} {size n : Nat} {l : List Value}
theorem one_nil : ∀ u ∈ ([] : List Value), u.oneCell' = true := fun _ h => by cases h
theorem one_cons {u : Value} {l : List Value} (h : u.oneCell' = true) (hl : ∀ u ∈ l, u.oneCell' = true) : ∀ z ∈ u :: l, z.oneCell' = true := fun z hz => by
  rcases List.mem_cons.1 hz with rfl | hz
  · exact h
  · exact hl z hz
theorem Sc.one (h : Sc D w size v n l) : v.oneCell' = true := by
  obtain ⟨A, c, rfl, _⟩ := h
  rfl
theorem Sg.one {α : Type} {g : α → Value} {xs : List α} (h : Sg g D w v xs) : v.oneCell' = true := Sc.one h
theorem Ss.one {α : Type} {c : α → List Value} {xs : List α} (h : Ss c size D w v xs) : v.oneCell' = true := Sc.one h.2
theorem Ow.one {lo : Nat} {e : TypeId} (h : Ow w lo e size v n l) : v.oneCell' = true := by
  rcases h.2 with ⟨rfl, _⟩ | ⟨b, cap, cur, rfl, _⟩ <;> rfl
/-- of which slice value we speak -/
theorem Ow.len {lo : Nat} {e : TypeId} (h : Ow w lo e size v n l) : ∃ A cap, v = .slice A n cap ∧ n ≤ cap ∧ cap ≤ 9223372036854775807 := by
  rcases h.2 with ⟨rfl, rfl⟩ | ⟨b, cap, cur, rfl, _, _, hc, hm, _⟩
  · exact ⟨none, 0, rfl, Nat.le_refl _, by omega⟩
  · exact ⟨_, cap, rfl, hc, by simpa [maxLen] using hm⟩
end

theorem Sg.some_ {α : Type} {g : α → Value} {D : Nat → TypeId → Prop} {w : World} {v : Value} {xs : List α} (h : Sg g D w v xs) (hn : 0 < xs.length) {A : Option Addr} {n c : Nat} (hv : v = .slice A n c) : A.isNone = false := by
  obtain ⟨A', c', rfl, _, _, _, h4⟩ := h
  injection hv with e1
  subst e1
  rcases h4 with h4 | ⟨b, o, rfl, _⟩
  · rw [List.map_eq_nil_iff.1 h4] at hn; simp at hn
  · rfl

/-- a store into a block that is new against w0 -/
theorem Exc.own {b b1 : Nat} {w0 w w' : World} (h : Exc b w0 w) (k : Exc b1 w w') (hb : w0.heap.size ≤ b1) : Exc b w0 w' :=
  ⟨k.os.trans h.os, k.tape.trans h.tape, k.output.trans h.output, Nat.le_trans h.size k.size, fun i hi hne => (k.block i (Nat.lt_of_lt_of_le hi h.size) (by omega)).trans (h.block i hi hne)⟩
theorem Exc.below {b B : Nat} {w0 w : World} (h : Exc b w0 w) (hb : B ≤ b) (hB : B ≤ w0.heap.size) : Below B w0 w := ⟨h.os, h.tape, h.output, h.size, fun k hk => h.block k (by omega) (by omega)⟩
theorem Exc.ext {b : Nat} {w0 w : World} (h : Exc b w0 w) (hb : w0.heap.size ≤ b) : Ext w0 w := h.below hb (Nat.le_refl _)
section
variable {D : Nat → TypeId → Prop} {w : World} {v : Value} {size n : Nat} {l : List Value}
/-- what is read lies in blocks that are there -/
theorem Sc.old (h : Sc D w size v n l) : Sc (fun b T => D b T ∧ b < w.heap.size) w size v n l := by
  obtain ⟨A, c, rfl, h1, h2, h3, h4⟩ := h
  refine ⟨A, c, rfl, h1, h2, h3, h4.imp id ?_⟩
  rintro ⟨b, o, rfl, hr⟩
  refine ⟨b, o, rfl, ?_⟩
  rcases hr with hr | ⟨cs, T, fz, hh, hd, hc⟩
  · exact .inl hr
  · exact .inr ⟨cs, T, fz, hh, ⟨hd, lt_of_heap hh⟩, hc⟩
theorem Sg.old {α : Type} {g : α → Value} {xs : List α} (h : Sg g D w v xs) : Sg g (fun b T => D b T ∧ b < w.heap.size) w v xs := Sc.old h
theorem Ss.old {α : Type} {c : α → List Value} {xs : List α} (h : Ss c size D w v xs) : Ss c size (fun b T => D b T ∧ b < w.heap.size) w v xs := ⟨h.1, Sc.old h.2⟩
end


theorem cells_one {v : Value} (h : v.oneCell' = true) : v.cells = #[v] := by
  cases v <;> first | rfl | (simp [Value.oneCell'] at h)

section
variable {P : Program} {f : Nat → Value} {w : World} {dst : Option Tmp} {ty : TypeId} {pos : String} {aft : Array Edge} {gd : Option (Nat × Bool)} {x y z : Operand} {t e : TypeId}
/-- x[:k], x[k:], x[l:k], the numbers as natural ones -/
theorem r_sh {k : IntKind} {A : Option Addr} {n c size bytes kk : Nat} {h : Int} {zz : Value} (hu : P.underlying t = some (.slice e)) (ht : TyI P e size bytes zz) (hx : ev f x = .slice A n c) (hy : ev f y = .int k h) (hk : h = (kk : Int)) (h1 : kk ≤ c) :
    (execOp (ev f) ⟨dst, .slice t x none (some y) none, ty, pos, aft, gd⟩).run P w = .ok (.value (.slice A kk c)) w := by
  have h2 := r_slice_h (P := P) (f := f) (w := w) (dst := dst) (ty := ty) (pos := pos) (aft := aft) (g := gd) hu ht hx hy (by omega) (by omega)
  rw [hk, Int.toNat_natCast] at h2
  exact h2
theorem r_sl {k : IntKind} {A : Option Addr} {n c size bytes kk : Nat} {l : Int} {zz : Value} (hu : P.underlying t = some (.slice e)) (ht : TyI P e size bytes zz) (hx : ev f x = .slice A n c) (hy : ev f y = .int k l) (hk : l = (kk : Int)) (h1 : kk ≤ n) :
    (execOp (ev f) ⟨dst, .slice t x (some y) none none, ty, pos, aft, gd⟩).run P w = .ok (.value (.slice (if c = kk then A else A.map (·.add (kk * size))) (n - kk) (c - kk))) w := by
  have h2 := r_slice_l (P := P) (f := f) (w := w) (dst := dst) (ty := ty) (pos := pos) (aft := aft) (g := gd) hu ht hx hy (by omega) (by omega)
  rw [hk, Int.toNat_natCast] at h2
  exact h2
/-- x[k:] of an array of one's own, cells remaining -/
theorem r_sl_own {k : IntKind} {b o n c size bytes kk : Nat} {l : Int} {zz : Value} (hu : P.underlying t = some (.slice e)) (ht : TyI P e size bytes zz) (hx : ev f x = .slice (some ⟨b, o, none⟩) n c) (hy : ev f y = .int k l) (hk : l = (kk : Int)) (h1 : kk ≤ n) (h2 : kk < c) :
    (execOp (ev f) ⟨dst, .slice t x (some y) none none, ty, pos, aft, gd⟩).run P w = .ok (.value (.slice (some ⟨b, o + kk * size, none⟩) (n - kk) (c - kk))) w := by
  have h3 := r_sl (P := P) (f := f) (w := w) (dst := dst) (ty := ty) (pos := pos) (aft := aft) (gd := gd) hu ht hx hy hk h1
  rw [if_neg (by omega)] at h3
  simpa [add_spotless] using h3
end
theorem Ar.none_ {α : Type} {g : α → Value} {w : World} {b o n : Nat} {T : TypeId} {xs : List α} (h : Ar g w b T o xs n) : Ar g w b T o [] 0 := by
  obtain ⟨⟨pre, post, h1, h2⟩, h3⟩ := h
  exact ⟨⟨pre, xs.map g ++ post, h1, by simpa using h2⟩, rfl⟩
end Go.Vg
