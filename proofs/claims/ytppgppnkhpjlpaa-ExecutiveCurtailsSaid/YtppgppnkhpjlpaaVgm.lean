/-
  SLICES OF STRUCTS OF ONE'S OWN: read, written, grown.
-/
import Derived.Test.YtppgppnkhpjlpaaVgl
import Derived.Test.YtppgppnkhpjlpaaMsel
import Derived.Deep.SlicePairs
namespace Go.Vg
open Go Go.RowKit Go.Vm
def Osl {α : Type} (c : α → List Value) (size : Nat) (w : World) (lo : Nat) (T : TypeId) (v : Value) (xs : List α) : Prop :=
  ((∀ x, (c x).length = size) ∧ 0 < size) ∧ Ow w lo T size v xs.length (xs.map c).flatten
section
variable {α : Type} {c : α → List Value} {size : Nat} {D : Nat → TypeId → Prop} {w w' : World} {lo b cap : Nat} {T : TypeId} {v : Value} {xs : List α}
theorem Osl.ext (h : Osl c size w lo T v xs) (e : Ext w w') : Osl c size w' lo T v xs := ⟨h.1, h.2.ext e⟩
theorem Osl.exo (h : Osl c size w lo T v xs) (e : Exc b w w') (hne : v.ownBlock ≠ some b) : Osl c size w' lo T v xs := ⟨h.1, h.2.exo e hne⟩
theorem Osl.one (h : Osl c size w lo T v xs) : v.oneCell' = true := h.2.one
theorem Osl.len (h : Osl c size w lo T v xs) : ∃ A cap, v = .slice A xs.length cap ∧ xs.length ≤ cap ∧ cap ≤ 9223372036854775807 := h.2.len
theorem Osl.lt (h : Osl c size w lo T v xs) (b : Nat) (hb : v.ownBlock = some b) : b < w.heap.size := (World.ownsRow.lt h.2 b hb).2
theorem Osl.ss (h : Osl c size w lo T v xs) (hD : ∀ b, lo ≤ b → D b T) : Ss c size D w v xs := h.2.ss rfl rfl h.1.2 (fun x _ => h.1.1 x) hD
theorem Osl.at (h : Osl c size w lo T v xs) (k : Nat) (hk : k < xs.length) : ∃ b cap, v = .slice (some ⟨b, 0, none⟩) xs.length cap ∧ lo ≤ b := by
  rcases h.2.2 with ⟨_, h0⟩ | ⟨b, cap, cur, rfl, hb, _⟩
  · omega
  · exact ⟨b, cap, rfl, hb⟩
theorem Osl.cell [Inhabited α] (h : Osl c size w lo T v xs) (hv : v = .slice (some ⟨b, 0, none⟩) xs.length cap) {i : Int} (k : Nat) (hi : i = (k : Int)) (hk : k < xs.length) : ∀ j u, (c (xs.getD k default))[j]? = some u → w.cell? ⟨b, 0 + i.toNat * size + j, none⟩ = some u := by
  obtain ⟨bb, o, cap', hv', hc⟩ := (h.ss (D := fun _ _ => True) (fun _ _ => trivial)).ix k hi hk
  rw [hv] at hv'
  injection hv' with e1 e2 e3
  injection e1 with e1
  injection e1 with e4 e5
  subst e4 e5
  exact hc
theorem take_spl (l cs : List Value) (o m : Nat) (h : o + cs.length ≤ m) : (spl l o cs).take m = spl (l.take m) o cs := by
  unfold spl
  have e1 : (l.take o).take m = l.take o := by rw [List.take_take, Nat.min_eq_right (by omega)]
  have e2 : (l.take m).take o = l.take o := by rw [List.take_take, Nat.min_eq_left (by omega)]
  rw [List.take_append, List.take_append, e1, e2, List.take_of_length_le (show cs.length ≤ m - (l.take o).length by rw [List.length_take]; omega), List.drop_take]
  congr 1
  by_cases ho : o ≤ l.length
  · rw [List.length_append, List.length_take, Nat.min_eq_left ho]
  · rw [List.drop_of_length_le (show l.length ≤ o + cs.length by omega)]; simp
end
section
variable {P : Program} {f : Nat → Value} {w : World} {dst : Option Tmp} {ty : TypeId} {pos : String} {aft : Array Edge} {gd : Option (Nat × Bool)} {x y z : Operand} {t e : TypeId}
theorem h_setO {α : Type} {c : α → List Value} {size : Nat} {T : TypeId} {lo b cap bytes : Nat} {xs : List α} {u : α} {i : Int} {v vv zz : Value} (ht : TyI P t size bytes zz) (hx : ev f x = .pointer (some ⟨b, 0 + i.toNat * size, none⟩)) (hy : ev f y = vv) (hvv : vv.cells = (c u).toArray) (h1 : ∀ q ∈ c u, q.oneCell' = true)
    (ha : Osl c size w lo T v xs) (hv : v = .slice (some ⟨b, 0, none⟩) xs.length cap) (k : Nat) (hi : i = (k : Int)) (hk : k < xs.length) :
    RunS P f ⟨dst, .store t x y, ty, pos, aft, gd⟩ w fun w' => Osl c size w' lo T v (xs.set k u) ∧ Exc b w w' := by
  obtain ⟨⟨hc, hs0⟩, h2, h3⟩ := ha
  subst hi
  have e1 : 0 + (((k : Nat) : Int)).toNat * size = k * size := by rw [Int.toNat_natCast, Nat.zero_add]
  rw [e1] at hx
  rcases h3 with ⟨_, h0⟩ | ⟨b', cap', cur, hv', hb, hh, hcap, hm, hsz, htk⟩
  · omega
  · rw [hv] at hv'
    injection hv' with q1 q2 q3
    injection q1 with q1
    injection q1 with q4 q5
    subst q4
    have hkm : k * size + (c u).length ≤ xs.length * size := by
      rw [hc u]
      have := Nat.mul_le_mul_right size (show k + 1 ≤ xs.length by omega)
      rw [Nat.succ_mul] at this
      exact this
    have hfit : k * size + (c u).length ≤ cur.toList.length := by
      have h4 : xs.length * size ≤ cap' * size := Nat.mul_le_mul_right size hcap
      rw [show cur.toList.length = cap' * size from hsz]
      exact Nat.le_trans hkm h4
    obtain ⟨w', hr, h5, h6, _⟩ := h_store (P := P) (f := f) (dst := dst) (ty := ty) (pos := pos) (aft := aft) (g := gd) (cs := c u) (T := T) (l := cur.toList) ht hx hy hvv (hc u) h1 (by unfold Bk; rw [hh]) hfit
    refine ⟨w', hr, ⟨⟨hc, hs0⟩, ?_, .inr ⟨b, cap', (spl cur.toList (k * size) (c u)).toArray, by rw [List.length_set, hv, q3], hb, h5, by rw [List.length_set]; exact hcap, hm, ?_, ?_⟩⟩, h6⟩
    · rw [flat_len hc]
    · have : (spl cur.toList (k * size) (c u)).length = cur.toList.length := by
        unfold spl
        simp only [List.length_append, List.length_take, List.length_drop]
        omega
      rw [List.size_toArray, this]; exact hsz
    · rw [List.length_set, List.toList_toArray, take_spl _ _ _ _ hkm, htk, flat_set hc xs k u hk]
end
/-- lists that are changed from the left -/
def updK {α : Type} [Inhabited α] (f : Nat → α) (l : List α) (k : Nat) : List α := (List.range l.length).map fun j => if j < k then f j else l.getD j default
section
variable {α : Type} [Inhabited α] {f : Nat → α} {l : List α} {k : Nat}
theorem length_updK (f : Nat → α) (l : List α) (k : Nat) : (updK f l k).length = l.length := by simp [updK]
theorem updK_at {j : Nat} (h : j < l.length) : (updK f l k).getD j default = if j < k then f j else l.getD j default := by simp [updK, h]
theorem updK_zero : updK f l 0 = l := list_ext (length_updK ..) fun j hj => by rw [length_updK] at hj; rw [updK_at hj]; simp
theorem updK_set {x : α} (h : k < l.length) (hx : x = f k) : (updK f l k).set k x = updK f l (k + 1) := list_ext (by simp [updK]) fun j hj => by
  rw [List.length_set, length_updK] at hj
  rw [set_at (by rw [length_updK]; exact hj), updK_at hj, updK_at hj]
  by_cases e : k = j
  · subst e; rw [if_pos rfl, if_pos (by omega)]; exact hx
  · rw [if_neg e]
    by_cases h2 : j < k
    · rw [if_pos h2, if_pos (by omega)]
    · rw [if_neg h2, if_neg (by omega)]
theorem updK_full (h : l.length ≤ k) : updK f l k = byR f l.length := byR_ext (length_updK ..) fun j hj => by rw [updK_at hj, if_pos (by omega)]
end
end Go.Vg
namespace Go.Vg
open Go Go.RowKit Go.Vm
theorem flat_inv {α : Type} [Inhabited α] {c : α → List Value} {size : Nat} (hs : 0 < size) (hc : ∀ x, (c x).length = size) {xs : List α} {m : Nat} {u : Value} (h : (xs.map c).flatten[m]? = some u) : m / size < xs.length ∧ (c (xs.getD (m / size) default))[m % size]? = some u := by
  have hm : m < xs.length * size := by
    rw [← flat_len hc]
    exact (List.getElem?_eq_some_iff.1 h).1
  have h1 : m / size < xs.length := (Nat.div_lt_iff_lt_mul hs).2 hm
  refine ⟨h1, ?_⟩
  have h2 : m % size < (c (xs.getD (m / size) default)).length := by rw [hc]; exact Nat.mod_lt _ hs
  have h3 : xs[m / size]? = some (xs.getD (m / size) default) := by simp [h1]
  have h4 := flat_at (fun x _ => hc x) h3 (List.getElem?_eq_getElem h2)
  rw [Nat.div_add_mod' m size, h] at h4
  injection h4 with h4
  rw [List.getElem?_eq_getElem h2, h4]
/-- what came in, by its cells -/
theorem Ss.of_cells {α : Type} [Inhabited α] {c : α → List Value} {size : Nat} (hs : 0 < size) (hc : ∀ x, (c x).length = size) {w : World} {x : Addr} {len cap : Nat} {xs : List α} (hl : xs.length = len) (hlc : len ≤ cap) (hm : cap ≤ maxLen)
    (hcell : ∀ i, i < len → ∀ j u, (c (xs.getD i default))[j]? = some u → w.cell? (x.add (i * size + j)) = some u) : Ss c size (fun _ _ => True) w (.slice (some x) len cap) xs := by
  subst hl
  refine ⟨⟨hs, fun x _ => hc x⟩, some x, cap, rfl, hlc, hm, flat_len hc xs, ?_⟩
  by_cases h0 : xs.length = 0
  · left
    rw [List.eq_nil_of_length_eq_zero h0]
    rfl
  · right
    obtain ⟨b, o, spot⟩ := x
    have hlen : 0 < (c (xs.getD 0 default)).length := by rw [hc]; exact hs
    have h1 := hcell 0 (by omega) 0 _ (List.getElem?_eq_getElem hlen)
    have hspot : spot = none := by simpa [Addr.add] using World.cell?_spot h1
    subst hspot
    refine ⟨b, o, rfl, .inr ?_⟩
    have h2 := h1
    unfold World.cell? at h2
    rw [add_spotless] at h2
    cases hb : w.heap[b]? with
    | none => rw [show ((⟨b, o + (0 * size + 0), none⟩ : Addr).block) = b from rfl, hb] at h2; cases h2
    | some ob =>
      cases ob with
      | cells cs T fz =>
        refine ⟨cs, T, fz, rfl, trivial, fun m u hu => ?_⟩
        obtain ⟨h3, h4⟩ := flat_inv hs hc hu
        have h5 := hcell (m / size) h3 (m % size) u h4
        rw [Nat.div_add_mod' m size, add_spotless] at h5
        unfold World.cell? at h5
        simp only [hb] at h5
        simpa using h5
      | _ => rw [show ((⟨b, o + (0 * size + 0), none⟩ : Addr).block) = b from rfl, hb] at h2; cases h2
end Go.Vg
