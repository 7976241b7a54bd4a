/-
  WORDS FOR DATA: slices of numbers that are read, arrays of one's own that are written.
-/
import Derived.Test.YtppgppnkhpjlpaaVgf
namespace Go.Vg
open Go.RowKit

/-- a slice that reads as xs, element by element through g -/
def Sg {α : Type} (g : α → Value) (D : Nat → TypeId → Prop) (w : World) (v : Value) (xs : List α) : Prop := Sc D w 1 v xs.length (xs.map g)
/-- an array of one's own that holds xs from cell o on -/
def Ar {α : Type} (g : α → Value) (w : World) (b : Nat) (T : TypeId) (o : Nat) (xs : List α) (n : Nat) : Prop := (∃ pre post, pre.length = o ∧ Bk w b T (pre ++ xs.map g ++ post)) ∧ xs.length = n
abbrev gI (k : IntKind) : Int → Value := fun z => .int k z
abbrev gN (k : IntKind) : Nat → Value := fun z => .int k (z : Int)
abbrev gB : Bool → Value := fun b => .bool b

section
variable {α : Type} {g : α → Value} {D D' : Nat → TypeId → Prop} {w w' : World} {v : Value} {xs : List α} {b n : Nat} {T : TypeId}

theorem Sg.tr (h : Sg g D w v xs) (hs : Sm D w w') : Sg g D w' v xs := Sc.tr h hs
theorem Sg.mono (h : Sg g D w v xs) (hD : ∀ b T, D b T → D' b T) : Sg g D' w v xs := Sc.mono h hD
theorem Sg.nil : Sg g D w (.slice none 0 0) [] := Sc.nil
/-- its length -/
theorem Sg.len (h : Sg g D w v xs) : ∃ A c, v = .slice A xs.length c ∧ xs.length ≤ c ∧ c ≤ 9223372036854775807 := by
  obtain ⟨A, c, rfl, h1, h2, _⟩ := h
  exact ⟨A, c, rfl, h1, by simpa [maxLen] using h2⟩
/-- its element k -/
theorem Sg.ix [Inhabited α] (h : Sg g D w v xs) {i : Int} (k : Nat) (hi : i = (k : Int)) (hk : k < xs.length) :
    ∃ bb o c, v = .slice (some ⟨bb, o, none⟩) xs.length c ∧ w.cell? ⟨bb, o + i.toNat * 1, none⟩ = some (g (xs.getD k default)) := by
  obtain ⟨A, c, rfl, h1, h2, h3, h4⟩ := h
  subst hi
  rcases h4 with h4 | ⟨bb, o, rfl, hr⟩
  · have : xs = [] := List.map_eq_nil_iff.1 h4
    subst this
    simp at hk
  · refine ⟨bb, o, c, rfl, ?_⟩
    have := hr.cell (j := k) (u := g (xs.getD k default)) (by simp [hk])
    simpa using this
/-- xs[:k] -/
theorem Sg.take (h : Sg g D w v xs) (k : Nat) (hk : k ≤ xs.length) {A : Option Addr} {m c : Nat} (hv : v = .slice A m c) : Sg g D w (.slice A k c) (xs.take k) := by
  obtain ⟨A', c', rfl, h1, h2, h3, h4⟩ := h
  injection hv with e1 e2 e3
  subst e1 e2 e3
  have hl : (xs.take k).length = k := by simp [hk]
  refine ⟨A', c', by rw [hl], by omega, h2, by simp, ?_⟩
  rcases h4 with h4 | ⟨bb, o, rfl, hr⟩
  · have : xs = [] := List.map_eq_nil_iff.1 h4
    subst this
    exact .inl (by simp)
  · exact .inr ⟨bb, o, rfl, by rw [List.map_take]; exact hr.take k⟩
/-- xs[k:] -/
theorem Sg.drop (h : Sg g D w v xs) (k : Nat) (hk : k ≤ xs.length) {A : Option Addr} {m c : Nat} (hv : v = .slice A m c) : Sg g D w (.slice (if c = k then A else A.map (·.add (k * 1))) (m - k) (c - k)) (xs.drop k) := by
  obtain ⟨A', c', rfl, h1, h2, h3, h4⟩ := h
  injection hv with e1 e2 e3
  subst e1 e2 e3
  have hl : (xs.drop k).length = xs.length - k := by simp
  refine ⟨_, _, by rw [hl], by omega, by omega, by simp, ?_⟩
  by_cases hx : xs.drop k = []
  · exact .inl (by rw [hx]; rfl)
  · rcases h4 with h4 | ⟨bb, o, rfl, hr⟩
    · have : xs = [] := List.map_eq_nil_iff.1 h4
      subst this
      exact absurd (by simp) hx
    · have hlt : k < xs.length := by
        rcases Nat.lt_or_ge k xs.length with h | h
        · exact h
        · exact absurd (List.drop_of_length_le h) hx
      rw [if_neg (by omega)]
      refine .inr ⟨bb, o + k, ?_, by rw [List.map_drop]; exact hr.drop k⟩
      simp [add_spotless]

theorem Ar.ext {o : Nat} (h : Ar g w b T o xs n) (e : Ext w w') : Ar g w' b T o xs n := by
  obtain ⟨⟨pre, post, h1, h2⟩, h3⟩ := h
  exact ⟨⟨pre, post, h1, h2.ext e⟩, h3⟩
theorem Ar.exc {o b0 : Nat} (h : Ar g w b T o xs n) (e : Exc b0 w w') (hne : b ≠ b0) : Ar g w' b T o xs n := by
  obtain ⟨⟨pre, post, h1, h2⟩, h3⟩ := h
  exact ⟨⟨pre, post, h1, h2.exc e hne⟩, h3⟩
theorem Ar.lt {o : Nat} (h : Ar g w b T o xs n) : b < w.heap.size := by
  obtain ⟨⟨pre, post, h1, h2⟩, h3⟩ := h
  exact h2.lt
theorem Ar.cell [Inhabited α] {o : Nat} (h : Ar g w b T o xs n) {i : Int} (k : Nat) (hi : i = (k : Int)) (hk : k < n) : w.cell? ⟨b, o + i.toNat * 1, none⟩ = some (g (xs.getD k default)) := by
  obtain ⟨⟨pre, post, h1, h2⟩, h3⟩ := h
  subst hi h1
  have hk' : k < xs.length := by rw [h3]; exact hk
  refine h2.cell (j := pre.length + (k : Int).toNat * 1) ?_
  rw [Int.toNat_natCast, Nat.mul_one, List.append_assoc, List.getElem?_append_right (by omega)]
  rw [Nat.add_sub_cancel_left, List.getElem?_append_left (by simpa using hk')]
  simp [hk']
theorem Ar.sc {o c : Nat} (h : Ar g w b T o xs n) (hc : n ≤ c) (hm : c ≤ 9223372036854775807) (hd : D b T) : Sg g D w (.slice (some ⟨b, o, none⟩) n c) xs := by
  obtain ⟨⟨pre, post, h1, h2⟩, h3⟩ := h
  refine ⟨_, c, by rw [h3], by rw [h3]; exact hc, by simpa [maxLen] using hm, by simp, .inr ⟨b, o, rfl, .inr ⟨_, T, (0, 0), h2, hd, fun j u hj => ?_⟩⟩⟩
  subst h1
  have hj' : j < (xs.map g).length := by
    rcases Nat.lt_or_ge j (xs.map g).length with h | h
    · exact h
    · rw [List.getElem?_eq_none h] at hj; cases hj
  simp only [List.getElem?_toArray]
  rw [List.append_assoc, List.getElem?_append_right (by omega), Nat.add_sub_cancel_left, List.getElem?_append_left hj']
  exact hj
theorem Ar.sm {o : Nat} (h : Ar g w b T o xs n) (e : Exc b w w') (hD : ¬ D b T) : Sm D w w' := by
  obtain ⟨⟨pre, post, h1, h2⟩, h3⟩ := h
  exact h2.sm e hD
theorem Ar.made {z : α} {zz : Value} (hb : Bk w b T (List.replicate n zz)) (hz : g z = zz) : Ar g w b T 0 (List.replicate n z) n := ⟨⟨[], [], rfl, by rw [List.map_replicate, hz]; simpa using hb⟩, by simp⟩
theorem Ar.bk {o : Nat} (h : Ar g w b T o xs n) : ∃ l, Bk w b T l := by
  obtain ⟨⟨pre, post, h1, h2⟩, h3⟩ := h
  exact ⟨_, h2⟩
/-- the part from k on -/
theorem Ar.tail {o : Nat} (h : Ar g w b T o xs n) (k : Nat) (hk : k ≤ n) : Ar g w b T (o + k) (xs.drop k) (n - k) := by
  obtain ⟨⟨pre, post, h1, h2⟩, h3⟩ := h
  refine ⟨⟨pre ++ (xs.take k).map g, post, by simp; omega, ?_⟩, by simp; omega⟩
  have e : pre ++ (xs.take k).map g ++ (xs.drop k).map g ++ post = pre ++ xs.map g ++ post := by
    rw [List.append_assoc pre, ← List.map_append, List.take_append_drop]
  rw [e]
  exact h2
end

section
variable {P : Program} {f : Nat → Value} {w : World} {dst : Option Tmp} {ty : TypeId} {pos : String} {aft : Array Edge} {gd : Option (Nat × Bool)} {x y z : Operand} {t e : TypeId}
theorem spl_set {α : Type} (g : α → Value) (pre post : List Value) (xs : List α) (k : Nat) (u : α) (hk : k < xs.length) : spl (pre ++ xs.map g ++ post) (pre.length + k * 1) [g u] = pre ++ (xs.set k u).map g ++ post := by
  unfold spl
  rw [List.map_set, List.set_eq_take_append_cons_drop]
  rw [if_pos (by simpa using hk), Nat.mul_one]
  rw [List.append_assoc pre, List.take_append, List.drop_append]
  have e1 : pre.take (pre.length + k) = pre := List.take_of_length_le (by omega)
  have e2 : pre.drop (pre.length + k + [g u].length) = [] := List.drop_of_length_le (by simp; omega)
  have e3 : pre.length + k - pre.length = k := by omega
  have e4 : pre.length + k + [g u].length - pre.length = k + 1 := by simp; omega
  rw [e1, e2, e3, e4, List.take_append_of_le_length (by simp; omega), List.drop_append_of_le_length (by simp; omega)]
  simp
/-- a store into element k of an array of one's own -/
theorem h_set {α : Type} {g : α → Value} {T : TypeId} {b o n bytes : Nat} {xs : List α} {u : α} {i : Int} {vv zz : Value} (ht : TyI P t 1 bytes zz) (hx : ev f x = .pointer (some ⟨b, o + i.toNat * 1, none⟩)) (hy : ev f y = vv) (hv : vv = g u) (hc : (g u).cells = #[g u]) (h1 : (g u).oneCell' = true)
    (ha : Ar g w b T o xs n) (k : Nat) (hi : i = (k : Int)) (hk : k < n) :
    RunS P f ⟨dst, .store t x y, ty, pos, aft, gd⟩ w fun w' => Ar g w' b T o (xs.set k u) n ∧ Exc b w w' := by
  obtain ⟨⟨pre, post, h2, h3⟩, h4⟩ := ha
  subst hi hv h2
  have hk' : k < xs.length := by rw [h4]; exact hk
  obtain ⟨w', hr, h5, h6, _⟩ := h_store (P := P) (f := f) (dst := dst) (ty := ty) (pos := pos) (aft := aft) (g := gd) (cs := [g u]) ht hx hy hc rfl (by simpa using h1) h3 (by simp; omega)
  refine ⟨w', hr, ⟨⟨pre, post, rfl, ?_⟩, by simpa using h4⟩, h6⟩
  have e : (((k : Nat) : Int)).toNat = k := Int.toNat_natCast k
  rw [e, spl_set g pre post xs k u hk'] at h5
  exact h5
end
end Go.Vg

namespace Go.Vg
theorem Ent.of {P : Program} {k : FuncId} {fn : Func} (hf : P.funcs[k]? = some fn) (hb : fn.body.isNone = false) (hn : (fn.name == "runtime.NumGoroutine") = false) : Ent P k := fun args w => by
  unfold callFunc
  simp only [Sem.run_bind]
  rw [show (program).run P w = .ok P w from rfl]
  simp only [Result.andThen_ok, hf, hn, hb, Bool.false_eq_true, if_false, Sem.run_pure]
/-- cells o, o + 1, .. of a block of one's own -/
theorem Bk.cells {w : World} {b : Nat} {T : TypeId} {l : List Value} (h : Bk w b T l) {o : Nat} {cs : List Value} (hc : (l.drop o).take cs.length = cs) : ∀ j u, cs[j]? = some u → w.cell? ⟨b, o + j, none⟩ = some u := fun j u hj => by
  refine h.cell ?_
  rw [← hc, List.getElem?_take] at hj
  split at hj
  · rwa [List.getElem?_drop] at hj
  · cases hj
end Go.Vg

namespace Go.Vg
theorem cell_ext {w u : World} {p : Addr} {v : Value} (hu : Ext w u) (h : w.cell? p = some v) : u.cell? p = some v := (hu.cell (World.block_lt_of_cell? w p h)).trans h
end Go.Vg
