/-
  FRACTIONS IN MEMORY: three cells (a sign, two slices of limbs); slices of them that are read, arrays of them of one's own.
-/
import Derived.Test.YtppgppnkhpjlpaaVgk
import Derived.Test.YtppgppnkhpjlpaaMrat
namespace Go.Vg
open Go Go.RowKit Go.Vm
abbrev RC : Type := Bool × Value × Value
abbrev ratC : RC → List Value := fun c => [.bool c.1, c.2.1, c.2.2]
/-- the three cells c read as q; no list is longer than L -/
def Rz (L : Nat) (D : Nat → TypeId → Prop) (w : World) (c : RC) (q : Rat) : Prop :=
  ∃ x d, Sg (gN .u32) D w c.2.1 x ∧ Lm x ∧ x.length ≤ L ∧ Sg (gN .u32) D w c.2.2 d ∧ Lm d ∧ d.length ≤ L ∧ ratOf c.1 (val x) (val d) = q
section
variable {L L' : Nat} {D D' : Nat → TypeId → Prop} {w w' : World} {c : RC} {q : Rat} {v : Value} {qs : List Rat}
theorem Rz.tr (h : Rz L D w c q) (hs : Sm D w w') : Rz L D w' c q := by
  obtain ⟨x, d, h1, h2, h3, h4, h5⟩ := h
  exact ⟨x, d, h1.tr hs, h2, h3, h4.tr hs, h5⟩
theorem Rz.mono (h : Rz L D w c q) (hD : ∀ b T, D b T → D' b T) : Rz L D' w c q := by
  obtain ⟨x, d, h1, h2, h3, h4, h5⟩ := h
  exact ⟨x, d, h1.mono hD, h2, h3, h4.mono hD, h5⟩
theorem Rz.wide (h : Rz L D w c q) (hL : L ≤ L') : Rz L' D w c q := by
  obtain ⟨x, d, h1, h2, h3, h4, h5, h6, h7⟩ := h
  exact ⟨x, d, h1, h2, by omega, h4, h5, by omega, h7⟩
theorem Rz.old (h : Rz L D w c q) : Rz L (fun b T => D b T ∧ b < w.heap.size) w c q := by
  obtain ⟨x, d, h1, h2, h3, h4, h5⟩ := h
  exact ⟨x, d, h1.old, h2, h3, h4.old, h5⟩
/-- those of a canonical result -/
theorem Rz.canon {vn vd : Value} (h1 : Sg (gN .u32) D w vn (digs q.num.natAbs)) (h2 : Sg (gN .u32) D w vd (digs q.den)) (l1 : (digs q.num.natAbs).length ≤ L) (l2 : (digs q.den).length ≤ L) : Rz L D w (decide (q.num < 0), vn, vd) q :=
  ⟨_, _, h1, digs_lm _, l1, h2, digs_lm _, l2, ratOf_canon q⟩
theorem Rz.of {s : Bool} {vn vd : Value} {x d : List Nat} (h1 : Sg (gN .u32) D w vn x) (m1 : Lm x) (l1 : x.length ≤ L) (h2 : Sg (gN .u32) D w vd d) (m2 : Lm d) (l2 : d.length ≤ L) (e : ratOf s (val x) (val d) = q) : Rz L D w (s, vn, vd) q :=
  ⟨x, d, h1, m1, l1, h2, m2, l2, e⟩
/-- a slice of fractions -/
def Rs (L : Nat) (D : Nat → TypeId → Prop) (w : World) (v : Value) (qs : List Rat) : Prop :=
  ∃ cs : List RC, Ss ratC 3 D w v cs ∧ cs.length = qs.length ∧ ∀ k, k < qs.length → Rz L D w (cs.getD k default) (qs.getD k default)
theorem Rs.tr (h : Rs L D w v qs) (hs : Sm D w w') : Rs L D w' v qs := by
  obtain ⟨cs, h1, h2, h3⟩ := h
  exact ⟨cs, h1.tr hs, h2, fun k hk => (h3 k hk).tr hs⟩
theorem Rs.mono (h : Rs L D w v qs) (hD : ∀ b T, D b T → D' b T) : Rs L D' w v qs := by
  obtain ⟨cs, h1, h2, h3⟩ := h
  exact ⟨cs, h1.mono hD, h2, fun k hk => (h3 k hk).mono hD⟩
theorem Rs.old (h : Rs L D w v qs) : Rs L (fun b T => D b T ∧ b < w.heap.size) w v qs := by
  obtain ⟨cs, h1, h2, h3⟩ := h
  exact ⟨cs, h1.old, h2, fun k hk => (h3 k hk).old⟩
theorem Rs.len (h : Rs L D w v qs) : ∃ A c, v = .slice A qs.length c ∧ qs.length ≤ c ∧ c ≤ 9223372036854775807 := by
  obtain ⟨cs, h1, h2, h3⟩ := h
  rw [← h2]
  exact h1.len
theorem Rs.one (h : Rs L D w v qs) : v.oneCell' = true := by
  obtain ⟨cs, h1, h2, h3⟩ := h
  exact h1.one
theorem Rs.ix (h : Rs L D w v qs) {i : Int} (k : Nat) (hi : i = (k : Int)) (hk : k < qs.length) :
    ∃ bb o cap s vn vd x d, v = .slice (some ⟨bb, o, none⟩) qs.length cap ∧ (∀ j u, [Value.bool s, vn, vd][j]? = some u → w.cell? ⟨bb, o + i.toNat * 3 + j, none⟩ = some u) ∧
      Sg (gN .u32) D w vn x ∧ Lm x ∧ x.length ≤ L ∧ Sg (gN .u32) D w vd d ∧ Lm d ∧ d.length ≤ L ∧ ratOf s (val x) (val d) = qs.getD k default := by
  obtain ⟨cs, h1, h2, h3⟩ := h
  obtain ⟨bb, o, cap, hv, hc⟩ := h1.ix k hi (by omega)
  obtain ⟨x, d, g⟩ := h3 k hk
  exact ⟨bb, o, cap, _, _, _, x, d, by rw [hv, h2], hc, g⟩
end
/-- an array of structs of one's own -/
def Aa {α : Type} (c : α → List Value) (size : Nat) (w : World) (b : Nat) (T : TypeId) (xs : List α) (n : Nat) : Prop := (∀ x, (c x).length = size) ∧ Bk w b T (xs.map c).flatten ∧ xs.length = n
section
variable {α : Type} {c : α → List Value} {size : Nat} {w w' : World} {b n : Nat} {T : TypeId} {xs : List α}
theorem Aa.ext (h : Aa c size w b T xs n) (e : Ext w w') : Aa c size w' b T xs n := ⟨h.1, h.2.1.ext e, h.2.2⟩
theorem Aa.exc {b0 : Nat} (h : Aa c size w b T xs n) (e : Exc b0 w w') (hne : b ≠ b0) : Aa c size w' b T xs n := ⟨h.1, h.2.1.exc e hne, h.2.2⟩
theorem Aa.lt (h : Aa c size w b T xs n) : b < w.heap.size := h.2.1.lt
theorem Aa.cell [Inhabited α] (h : Aa c size w b T xs n) {i : Int} (k : Nat) (hi : i = (k : Int)) (hk : k < n) : ∀ j u, (c (xs.getD k default))[j]? = some u → w.cell? ⟨b, 0 + i.toNat * size + j, none⟩ = some u := fun j u hj => by
  subst hi
  have hx : xs[k]? = some (xs.getD k default) := by simp [show k < xs.length by rw [h.2.2]; exact hk]
  refine h.2.1.cell ?_
  rw [Nat.zero_add, Int.toNat_natCast]
  exact flat_at (fun x _ => h.1 x) hx hj
theorem flat_len (hc : ∀ x, (c x).length = size) (xs : List α) : (xs.map c).flatten.length = xs.length * size := by
  induction xs with
  | nil => simp
  | cons x xs ih => simp [hc x, ih, Nat.succ_mul]; omega
theorem flat_set (hc : ∀ x, (c x).length = size) : ∀ (xs : List α) (k : Nat) (u : α), k < xs.length → spl (xs.map c).flatten (k * size) (c u) = ((xs.set k u).map c).flatten
  | [], k, u, h => by simp at h
  | x :: xs, 0, u, _ => by
    unfold spl
    have h1 := hc x
    have h2 := hc u
    simp only [Nat.zero_mul, List.take_zero, List.nil_append, Nat.zero_add, List.map_cons, List.flatten_cons, List.set_cons_zero]
    rw [List.drop_append, List.drop_of_length_le (by omega), show (c u).length - (c x).length = 0 by omega]
    simp
  | x :: xs, k + 1, u, h => by
    have ih := flat_set hc xs k u (by simpa using h)
    unfold spl at ih ⊢
    have h1 := hc x
    have h2 := hc u
    simp only [List.map_cons, List.flatten_cons, List.set_cons_succ]
    rw [← ih, Nat.succ_mul, List.take_append, List.drop_append]
    rw [List.take_of_length_le (by omega), List.drop_of_length_le (show (c x).length ≤ k * size + size + (c u).length by omega)]
    rw [show k * size + size - (c x).length = k * size by omega, show k * size + size + (c u).length - (c x).length = k * size + (c u).length by omega]
    simp
theorem Aa.made {z : α} {zs : List Value} (hc : ∀ x, (c x).length = size) (hb : Bk w b T (List.replicate n zs).flatten) (hz : c z = zs) : Aa c size w b T (List.replicate n z) n := ⟨hc, by rw [List.map_replicate, hz]; exact hb, by simp⟩
/-- as a slice that is read -/
theorem Aa.ss {D : Nat → TypeId → Prop} (h : Aa c size w b T xs n) (hs : 0 < size) (hd : D b T) (hm : n ≤ 9223372036854775807) : Ss c size D w (.slice (some ⟨b, 0, none⟩) n n) xs :=
  h.2.1.ss hd rfl h.2.2.symm hs (fun x _ => h.1 x) hm
end
section
variable {P : Program} {f : Nat → Value} {w : World} {dst : Option Tmp} {ty : TypeId} {pos : String} {aft : Array Edge} {gd : Option (Nat × Bool)} {x y z : Operand} {t e : TypeId}
theorem h_setA {α : Type} {c : α → List Value} {size : Nat} {T : TypeId} {b n bytes : Nat} {xs : List α} {u : α} {i : Int} {vv zz : Value} (ht : TyI P t size bytes zz) (hx : ev f x = .pointer (some ⟨b, 0 + i.toNat * size, none⟩)) (hy : ev f y = vv) (hv : vv.cells = (c u).toArray) (h1 : ∀ q ∈ c u, q.oneCell' = true)
    (ha : Aa c size w b T xs n) (k : Nat) (hi : i = (k : Int)) (hk : k < n) :
    RunS P f ⟨dst, .store t x y, ty, pos, aft, gd⟩ w fun w' => Aa c size w' b T (xs.set k u) n ∧ Exc b w w' := by
  obtain ⟨hc, hb, hl⟩ := ha
  subst hi
  have hk' : k < xs.length := by rw [hl]; exact hk
  have e1 : 0 + (((k : Nat) : Int)).toNat * size = k * size := by rw [Int.toNat_natCast, Nat.zero_add]
  rw [e1] at hx
  have hfit : k * size + (c u).length ≤ (xs.map c).flatten.length := by
    rw [flat_len hc, hc u]
    have := Nat.mul_le_mul_right size (show k + 1 ≤ xs.length by omega)
    rw [Nat.succ_mul] at this
    exact this
  obtain ⟨w', hr, h5, h6, _⟩ := h_store (P := P) (f := f) (dst := dst) (ty := ty) (pos := pos) (aft := aft) (g := gd) (cs := c u) ht hx hy hv (hc u) h1 hb hfit
  refine ⟨w', hr, ⟨hc, ?_, by simpa using hl⟩, h6⟩
  rw [flat_set hc xs k u hk'] at h5
  exact h5
end
/-- an array of fractions of one's own -/
def Aq (L : Nat) (D : Nat → TypeId → Prop) (w : World) (b : Nat) (T : TypeId) (qs : List Rat) (n : Nat) : Prop :=
  ∃ cs : List RC, Aa ratC 3 w b T cs n ∧ qs.length = n ∧ ∀ k, k < n → Rz L D w (cs.getD k default) (qs.getD k default)
section
variable {L L' : Nat} {D D' : Nat → TypeId → Prop} {w w' : World} {b n : Nat} {T : TypeId} {qs : List Rat}
theorem Aq.ext (h : Aq L D w b T qs n) (e : Ext w w') : Aq L D w' b T qs n := by
  obtain ⟨cs, h1, h2, h3⟩ := h
  exact ⟨cs, h1.ext e, h2, fun k hk => (h3 k hk).tr (Sm.ext e)⟩
theorem Aq.exc {b0 : Nat} (h : Aq L D w b T qs n) (e : Exc b0 w w') (hne : b ≠ b0) (hs : Sm D w w') : Aq L D w' b T qs n := by
  obtain ⟨cs, h1, h2, h3⟩ := h
  exact ⟨cs, h1.exc e hne, h2, fun k hk => (h3 k hk).tr hs⟩
theorem Aq.lt (h : Aq L D w b T qs n) : b < w.heap.size := by
  obtain ⟨cs, h1, h2, h3⟩ := h
  exact h1.lt
theorem Aq.sm (h : Aq L D w b T qs n) {w' : World} {D' : Nat → TypeId → Prop} (e : Exc b w w') (hD : ¬ D' b T) : Sm D' w w' := by
  obtain ⟨cs, h1, h2, h3⟩ := h
  exact h1.2.1.sm e hD
theorem Aq.len (h : Aq L D w b T qs n) : qs.length = n := by
  obtain ⟨cs, h1, h2, h3⟩ := h
  exact h2
theorem Aq.ix (h : Aq L D w b T qs n) {i : Int} (k : Nat) (hi : i = (k : Int)) (hk : k < n) :
    ∃ s vn vd x d, (∀ j u, [Value.bool s, vn, vd][j]? = some u → w.cell? ⟨b, 0 + i.toNat * 3 + j, none⟩ = some u) ∧
      Sg (gN .u32) D w vn x ∧ Lm x ∧ x.length ≤ L ∧ Sg (gN .u32) D w vd d ∧ Lm d ∧ d.length ≤ L ∧ ratOf s (val x) (val d) = qs.getD k default := by
  obtain ⟨cs, h1, h2, h3⟩ := h
  obtain ⟨x, d, g⟩ := h3 k hk
  exact ⟨_, _, _, x, d, h1.cell k hi hk, g⟩
theorem Rz.zero : Rz L D w (false, .slice none 0 0, .slice none 0 0) 0 := ⟨[], [], Sg.nil, Lm.nil, Nat.zero_le _, Sg.nil, Lm.nil, Nat.zero_le _, rfl⟩
theorem Aq.made (hb : Bk w b T (List.replicate n [.bool false, .slice none 0 0, .slice none 0 0]).flatten) : Aq L D w b T (List.replicate n 0) n := by
  refine ⟨List.replicate n (false, .slice none 0 0, .slice none 0 0), Aa.made (fun _ => rfl) hb rfl, by simp, fun k hk => ?_⟩
  have e1 : (List.replicate n ((false, .slice none 0 0, .slice none 0 0) : RC)).getD k default = (false, .slice none 0 0, .slice none 0 0) := by simp [hk]
  have e2 : (List.replicate n (0 : Rat)).getD k default = 0 := by simp [hk]
  rw [e1, e2]
  exact Rz.zero
end
section
variable {P : Program} {f : Nat → Value} {w : World} {dst : Option Tmp} {ty : TypeId} {pos : String} {aft : Array Edge} {gd : Option (Nat × Bool)} {x y z : Operand} {t e : TypeId}
theorem h_setQ {T : TypeId} {L b n bytes : Nat} {D : Nat → TypeId → Prop} {qs : List Rat} {s : Bool} {vn vd : Value} {q : Rat} {i : Int} {zz : Value} (ht : TyI P t 3 bytes zz) (hx : ev f x = .pointer (some ⟨b, 0 + i.toNat * 3, none⟩)) (hy : ev f y = .agg #[.bool s, vn, vd])
    (ha : Aq L D w b T qs n) (hD : ¬ D b T) (hq : Rz L D w (s, vn, vd) q) (k : Nat) (hi : i = (k : Int)) (hk : k < n) :
    RunS P f ⟨dst, .store t x y, ty, pos, aft, gd⟩ w fun w' => Aq L D w' b T (qs.set k q) n ∧ Exc b w w' := by
  obtain ⟨cs, h1, h2, h3⟩ := ha
  have hone : ∀ u ∈ ratC (s, vn, vd), u.oneCell' = true := by
    obtain ⟨x, d, g1, _, _, g2, _⟩ := hq
    exact one_cons rfl (one_cons g1.one (one_cons g2.one one_nil))
  obtain ⟨w', hr, h4, h5⟩ := h_setA (P := P) (f := f) (dst := dst) (ty := ty) (pos := pos) (aft := aft) (gd := gd) (u := (s, vn, vd)) ht hx hy rfl hone h1 k hi hk
  have hsm : Sm D w w' := h1.2.1.sm h5 hD
  refine ⟨w', hr, ⟨_, h4, by simpa using h2, fun j hj => ?_⟩, h5⟩
  by_cases e : k = j
  · subst e
    rw [show (cs.set k (s, vn, vd)).getD k default = (s, vn, vd) by simp [show k < cs.length by rw [h1.2.2]; exact hk], show (qs.set k q).getD k default = q by simp [show k < qs.length by omega]]
    exact hq.tr hsm
  · rw [show (cs.set k (s, vn, vd)).getD j default = cs.getD j default by simp [List.getElem?_set_ne e], show (qs.set k q).getD j default = qs.getD j default by simp [List.getElem?_set_ne e]]
    exact (h3 j hj).tr hsm
end
end Go.Vg
namespace Go.Vg
open Go Go.RowKit Go.Vm
/-- a block that holds no limb -/
def Nb (w : World) (b : Nat) : Prop := ∃ T l, Bk w b T l ∧ NoU l
theorem Nb.of {w : World} {b : Nat} {T : TypeId} {l : List Value} (h : Bk w b T l) (hl : NoU l) : Nb w b := ⟨T, l, h, hl⟩
theorem Sg.apn {D : Nat → TypeId → Prop} {w w' : World} {v : Value} {xs : List Nat} (h : Sg (gN .u32) D w v xs) {b : Nat} (e : Exc b w w') (hb : Nb w b) : Sg (gN .u32) D w' v xs := by
  obtain ⟨T, l, h1, h2⟩ := hb
  exact h.ap e h1 h2
theorem Rz.apn {L : Nat} {D : Nat → TypeId → Prop} {w w' : World} {c : RC} {q : Rat} (h : Rz L D w c q) {b : Nat} (e : Exc b w w') (hb : Nb w b) : Rz L D w' c q := by
  obtain ⟨x, d, h1, h2, h3, h4, h5⟩ := h
  exact ⟨x, d, h1.apn e hb, h2, h3, h4.apn e hb, h5⟩
/-- an array of one's own, known whole -/
def Af {α : Type} (g : α → Value) (w : World) (b : Nat) (T : TypeId) (xs : List α) (n : Nat) : Prop := Bk w b T (xs.map g) ∧ xs.length = n
section
variable {α : Type} {g : α → Value} {D : Nat → TypeId → Prop} {w w' : World} {b n : Nat} {T : TypeId} {xs : List α}
theorem Af.ext (h : Af g w b T xs n) (e : Ext w w') : Af g w' b T xs n := ⟨h.1.ext e, h.2⟩
theorem Af.exc {b0 : Nat} (h : Af g w b T xs n) (e : Exc b0 w w') (hne : b ≠ b0) : Af g w' b T xs n := ⟨h.1.exc e hne, h.2⟩
theorem Af.lt (h : Af g w b T xs n) : b < w.heap.size := h.1.lt
theorem Af.ar (h : Af g w b T xs n) : Ar g w b T 0 xs n := h.1.ar rfl h.2
theorem Af.cell [Inhabited α] (h : Af g w b T xs n) {i : Int} (k : Nat) (hi : i = (k : Int)) (hk : k < n) : w.cell? ⟨b, 0 + i.toNat * 1, none⟩ = some (g (xs.getD k default)) := h.ar.cell k hi hk
theorem Af.sg (h : Af g w b T xs n) (hm : n ≤ 9223372036854775807) (hd : D b T) : Sg g D w (.slice (some ⟨b, 0, none⟩) n n) xs := h.ar.sc (Nat.le_refl _) hm hd
theorem Af.made {z : α} {zz : Value} (hb : Bk w b T (List.replicate n zz)) (hz : g z = zz) : Af g w b T (List.replicate n z) n := ⟨by rw [List.map_replicate, hz]; exact hb, by simp⟩
theorem Af.nb (h : Af g w b T xs n) (hg : ∀ x, isU (g x) = false) : Nb w b := ⟨T, _, h.1, fun u hu => by obtain ⟨z, -, rfl⟩ := List.mem_map.1 hu; exact hg z⟩
theorem Af.sm {D' : Nat → TypeId → Prop} (h : Af g w b T xs n) (e : Exc b w w') (hD : ¬ D' b T) : Sm D' w w' := h.1.sm e hD
end
section
variable {P : Program} {f : Nat → Value} {w : World} {dst : Option Tmp} {ty : TypeId} {pos : String} {aft : Array Edge} {gd : Option (Nat × Bool)} {x y z : Operand} {t e : TypeId}
theorem h_setF {α : Type} {g : α → Value} {T : TypeId} {b n bytes : Nat} {xs : List α} {u : α} {i : Int} {vv zz : Value} (ht : TyI P t 1 bytes zz) (hx : ev f x = .pointer (some ⟨b, 0 + i.toNat * 1, none⟩)) (hy : ev f y = vv) (hv : vv = g u) (hc : (g u).cells = #[g u]) (h1 : (g u).oneCell' = true)
    (ha : Af g w b T xs n) (k : Nat) (hi : i = (k : Int)) (hk : k < n) :
    RunS P f ⟨dst, .store t x y, ty, pos, aft, gd⟩ w fun w' => Af g w' b T (xs.set k u) n ∧ Exc b w w' := by
  obtain ⟨h3, h4⟩ := ha
  subst hi hv
  have hk' : k < xs.length := by rw [h4]; exact hk
  obtain ⟨w', hr, h5, h6, _⟩ := h_store (P := P) (f := f) (dst := dst) (ty := ty) (pos := pos) (aft := aft) (g := gd) (cs := [g u]) ht hx hy hc rfl (by simpa using h1) h3 (by simp; omega)
  refine ⟨w', hr, ⟨?_, by simpa using h4⟩, h6⟩
  have e : (((k : Nat) : Int)).toNat = k := Int.toNat_natCast k
  have h7 := spl_set g [] [] xs k u hk'
  simp only [List.nil_append, List.append_nil, List.length_nil] at h7
  rw [e, h7] at h5
  exact h5
end
section
variable {L : Nat} {D : Nat → TypeId → Prop} {w w' : World} {b n : Nat} {T : TypeId} {qs : List Rat}
theorem Aq.nb (h : Aq L D w b T qs n) : Nb w b := by
  obtain ⟨cs, h1, h2, h3⟩ := h
  refine ⟨T, _, h1.2.1, fun u hu => ?_⟩
  obtain ⟨l, hl, hul⟩ := List.mem_flatten.1 hu
  obtain ⟨c, hc, rfl⟩ := List.mem_map.1 hl
  obtain ⟨k, hk, rfl⟩ := List.getElem_of_mem hc
  have hkn : k < n := by rw [← h1.2.2]; exact hk
  have hz := h3 k hkn
  rw [show cs.getD k default = cs[k] by simp [hk]] at hz
  obtain ⟨x, d, g1, _, _, g2, _⟩ := hz
  simp only [ratC, List.mem_cons, List.not_mem_nil, or_false] at hul
  rcases hul with rfl | rfl | rfl
  · rfl
  · exact g1.nu
  · exact g2.nu
theorem Aq.apn {b0 : Nat} (h : Aq L D w b T qs n) (e : Exc b0 w w') (hne : b ≠ b0) (hb : Nb w b0) : Aq L D w' b T qs n := by
  obtain ⟨cs, h1, h2, h3⟩ := h
  exact ⟨cs, h1.exc e hne, h2, fun k hk => (h3 k hk).apn e hb⟩
end
section
variable {P : Program} {f : Nat → Value} {w : World} {dst : Option Tmp} {ty : TypeId} {pos : String} {aft : Array Edge} {gd : Option (Nat × Bool)} {x y z : Operand} {t e : TypeId}
theorem h_setR {T : TypeId} {L b n bytes : Nat} {D : Nat → TypeId → Prop} {qs : List Rat} {s : Bool} {vn vd : Value} {q : Rat} {i : Int} {zz : Value} (ht : TyI P t 3 bytes zz) (hx : ev f x = .pointer (some ⟨b, 0 + i.toNat * 3, none⟩)) (hy : ev f y = .agg #[.bool s, vn, vd])
    (ha : Aq L D w b T qs n) (hq : Rz L D w (s, vn, vd) q) (k : Nat) (hi : i = (k : Int)) (hk : k < n) :
    RunS P f ⟨dst, .store t x y, ty, pos, aft, gd⟩ w fun w' => Aq L D w' b T (qs.set k q) n ∧ Exc b w w' := by
  have hnb := ha.nb
  obtain ⟨cs, h1, h2, h3⟩ := ha
  have hone : ∀ u ∈ ratC (s, vn, vd), u.oneCell' = true := by
    obtain ⟨x, d, g1, _, _, g2, _⟩ := hq
    exact one_cons rfl (one_cons g1.one (one_cons g2.one one_nil))
  obtain ⟨w', hr, h4, h5⟩ := h_setA (P := P) (f := f) (dst := dst) (ty := ty) (pos := pos) (aft := aft) (gd := gd) (u := (s, vn, vd)) ht hx hy rfl hone h1 k hi hk
  refine ⟨w', hr, ⟨_, h4, by simpa using h2, fun j hj => ?_⟩, h5⟩
  by_cases e : k = j
  · subst e
    rw [show (cs.set k (s, vn, vd)).getD k default = (s, vn, vd) by simp [show k < cs.length by rw [h1.2.2]; exact hk], show (qs.set k q).getD k default = q by simp [show k < qs.length by omega]]
    exact hq.apn h5 hnb
  · rw [show (cs.set k (s, vn, vd)).getD j default = cs.getD j default by simp [List.getElem?_set_ne e], show (qs.set k q).getD j default = qs.getD j default by simp [List.getElem?_set_ne e]]
    exact (h3 j hj).apn h5 hnb
end
end Go.Vg
namespace Go.Vg
open Go Go.RowKit Go.Vm
/-- a slice of fractions of one's own that grows -/
def Oq (L : Nat) (D : Nat → TypeId → Prop) (w : World) (lo : Nat) (T : TypeId) (v : Value) (qs : List Rat) : Prop :=
  ∃ cs : List RC, Ow w lo T 3 v qs.length (cs.map ratC).flatten ∧ cs.length = qs.length ∧ ∀ k, k < qs.length → Rz L D w (cs.getD k default) (qs.getD k default)
section
variable {L : Nat} {D D' : Nat → TypeId → Prop} {w w' : World} {lo b : Nat} {T T' : TypeId} {v : Value} {qs : List Rat} {l : List Value}
theorem Oq.nil : Oq L D w lo T (.slice none 0 0) [] := ⟨[], Ow.nil lo 3, rfl, fun k hk => absurd hk (Nat.not_lt_zero _)⟩
theorem Oq.ext (h : Oq L D w lo T v qs) (e : Ext w w') : Oq L D w' lo T v qs := by
  obtain ⟨cs, h1, h2, h3⟩ := h
  exact ⟨cs, h1.ext e, h2, fun k hk => (h3 k hk).tr (Sm.ext e)⟩
theorem Ow.exo {size n : Nat} (h : Ow w lo T size v n l) (e : Exc b w w') (hne : v.ownBlock ≠ some b) : Ow w' lo T size v n l :=
  h.kept (row := some b) ⟨e.os, e.tape, e.output, e.size, fun k hk hn => e.block k hk (fun he => hn (by rw [he]))⟩ (.inr hne)
theorem Oq.exo (h : Oq L D w lo T v qs) (e : Exc b w w') (hne : v.ownBlock ≠ some b) (hb : Nb w b) : Oq L D w' lo T v qs := by
  obtain ⟨cs, h1, h2, h3⟩ := h
  exact ⟨cs, h1.exo e hne, h2, fun k hk => (h3 k hk).apn e hb⟩
theorem Oq.lt (h : Oq L D w lo T v qs) (b : Nat) (hb : v.ownBlock = some b) : b < w.heap.size := by
  obtain ⟨cs, h1, h2, h3⟩ := h
  exact (World.ownsRow.lt h1 b hb).2
theorem Oq.one (h : Oq L D w lo T v qs) : v.oneCell' = true := by
  obtain ⟨cs, h1, h2, h3⟩ := h
  exact h1.one
theorem Oq.rs (h : Oq L D w lo T v qs) (h1 : ∀ b, lo ≤ b → D' b T) (h2 : ∀ b T, D b T → D' b T) : Rs L D' w v qs := by
  obtain ⟨cs, g1, g2, g3⟩ := h
  exact ⟨cs, g1.ss rfl g2.symm (by decide) (fun _ _ => rfl) h1, g2, fun k hk => (g3 k hk).mono h2⟩
theorem Oq.len (h : Oq L D w lo T v qs) : ∃ A c, v = .slice A qs.length c ∧ qs.length ≤ c ∧ c ≤ 9223372036854775807 := by
  obtain ⟨cs, h1, h2, h3⟩ := h
  exact h1.len
/-- what stays behind an append -/
theorem Oq.gsm (h : Oq L D w lo T v qs) (hg : w.grownBy w' v.ownBlock) (hD : ∀ b, lo ≤ b → ¬ D' b T) : Sm D' w w' := by
  obtain ⟨cs, h1, h2, h3⟩ := h
  exact h1.sm hg hD
theorem Oq.gbk (h : Oq L D w lo T v qs) (hg : w.grownBy w' v.ownBlock) (hb : Bk w b T' l) (hne : T' ≠ T) : Bk w' b T' l := by
  obtain ⟨cs, h1, h2, h3⟩ := h
  exact h1.bk hg hb (.inr hne)
theorem Oq.gbo (_h : Oq L D w lo T v qs) (hg : w.grownBy w' v.ownBlock) (hb : Bk w b T' l) (hne : v.ownBlock ≠ some b) : Bk w' b T' l :=
  (hg.block b hb.lt (fun he => hne he.symm)).trans hb
theorem Oq.gaf {α : Type} {g : α → Value} {xs : List α} {n : Nat} (h : Oq L D w lo T v qs) (hg : w.grownBy w' v.ownBlock) (hb : Af g w b T' xs n) (hne : T' ≠ T) : Af g w' b T' xs n := ⟨h.gbk hg hb.1 hne, hb.2⟩
theorem Oq.gbe {w0 : World} {B : Nat} (h : Oq L D w lo T v qs) (hg : w.grownBy w' v.ownBlock) (hE : Below B w0 w) (hB : B ≤ lo) (hs : B ≤ w.heap.size) : Below B w0 w' := by
  obtain ⟨cs, h1, h2, h3⟩ := h
  exact h1.below hg hE hB hs
end
section
variable {P : Program} {f : Nat → Value} {w : World} {dst : Option Tmp} {ty : TypeId} {pos : String} {aft : Array Edge} {g : Option (Nat × Bool)} {x y z : Operand} {t e : TypeId} {D D2 : Nat → TypeId → Prop}
theorem h_appendQ {L lo bytes : Nat} {zz v1 v2 : Value} {qs : List Rat} {c : RC} {q : Rat} (hu : P.underlying t = some (.slice e)) (ht : TyI P e 3 bytes zz) (hz : zz.cells.size = 3) (hx : ev f x = v1) (hy : ev f y = v2)
    (ho : Oq L D w lo e v1 qs) (hs : Sc D2 w 3 v2 1 (ratC c)) (hq : Rz L D w c q) (hD : ∀ b, ¬ D b e) (h63 : qs.length + 1 ≤ maxLen) (hby : (qs.length + 1) * bytes ≤ 140737488355328) (hlo : lo ≤ w.heap.size) :
    Run P f ⟨dst, .call ⟨.builtin .append, #[x, y], #[t, t]⟩, ty, pos, aft, g⟩ w fun v w' => Oq L D w' lo e v (qs ++ [q]) ∧ w.grownBy w' v1.ownBlock := by
  have ho' := ho
  obtain ⟨cs, h1, h2, h3⟩ := ho
  have hone : ∀ u ∈ ratC c, u.oneCell' = true := by
    obtain ⟨x, d, g1, _, _, g2, _⟩ := hq
    exact one_cons rfl (one_cons g1.one (one_cons g2.one one_nil))
  obtain ⟨v, w', hr, h4, h5⟩ := h_append (P := P) (f := f) (dst := dst) (ty := ty) (pos := pos) (aft := aft) (g := g) hu ht hz (by decide) hx hy h1 hs hone h63 hby hlo
  have hsm : Sm D w w' := ho'.gsm h5 (fun b _ => hD b)
  refine ⟨v, w', hr, ⟨cs ++ [c], ?_, by simp [h2], fun k hk => ?_⟩, h5⟩
  · rw [List.length_append, List.length_singleton, List.map_append, List.flatten_append]
    simpa using h4
  · rw [List.length_append, List.length_singleton] at hk
    by_cases hk' : k < qs.length
    · rw [show (cs ++ [c]).getD k default = cs.getD k default by simp [List.getElem?_append_left (show k < cs.length by omega)], show (qs ++ [q]).getD k default = qs.getD k default by simp [List.getElem?_append_left hk']]
      exact (h3 k hk').tr hsm
    · have e1 : k = qs.length := by omega
      subst e1
      rw [show (cs ++ [c]).getD qs.length default = c by rw [← h2]; simp, show (qs ++ [q]).getD qs.length default = q by simp]
      exact hq.tr hsm
end
end Go.Vg
