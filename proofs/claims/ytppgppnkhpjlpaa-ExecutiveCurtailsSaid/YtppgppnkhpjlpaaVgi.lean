/-
  MORE OF MEMORY: arrays by their address, one's own slices of structs read.
-/
import Derived.Test.YtppgppnkhpjlpaaVgh
namespace Go.Vg
open Go Go.RowKit
section
variable {P : Program} {f : Nat → Value} {w : World} {dst : Option Tmp} {ty : TypeId} {pos : String} {aft : Array Edge} {g : Option (Nat × Bool)} {x y : Operand} {t e : TypeId}
theorem r_indexArr {k : IntKind} {i : Int} {b o n size bytes : Nat} {zz : Value} (hu : P.underlying t = some (.array n e)) (ht : TyI P e size bytes zz) (hx : ev f x = .pointer (some ⟨b, o, none⟩)) (hy : ev f y = .int k i) (h0 : 0 ≤ i) (h1 : i < n) :
    (execOp (ev f) ⟨dst, .indexAddr t x y, ty, pos, aft, g⟩).run P w = .ok (.value (.pointer (some ⟨b, o + i.toNat * size, none⟩))) w := by
  obtain ⟨ii, hi, _, hs, _⟩ := ht.ex
  simp [execOp, hx, hy, Instr.indexAt, Instr.sureAddr, asIntOf, run_underlying hu, sizeOf, typeInfo, hi, hs, h0, h1, add_spotless]
end
section
variable {P : Program} {n : Nat} {f : Nat → Value} {w : World} {o : Oper} {ops : Array Oper} {rest : List Oper} {Q : Po} {d : Nat} {R : Value → World → Prop}
theorem RL.grun {j t : Nat} {want : Bool} (hg : o.guard = some (j, want)) (hj : (ops[j]?).bind (·.dst) = some t) (hf : f t = .bool want) (hd : o.dst = some d) (hn : d < n) (hr : Run P f o w R) (h : ∀ v w', R v w' → RL P n ops rest Q (st f d v) w') : RL P n ops (o :: rest) Q f w := by
  obtain ⟨v, w', hr, hR⟩ := hr
  exact RL.gval hg hj hf hd hn hr (h v w' hR)
end
section
variable {P : Program} {n : Nat} {f : Nat → Value} {w : World} {ops : Array Oper} {Q : Po}
/-- a region whose order is drawn, with a word of one's own on what its reads lean on -/
theorem wdrawT {id : Nat} (S : World → Prop) (hm : P.follows .mixedOrders = true) (h : ∀ w1, Below w.heap.size w w1 → RA P n ops Q S ops.size (Array.replicate ops.size false) f w1) : WP P n (.region id ops true) Q f w :=
  wdrawS S hm (h w.drew (Below.drew (Below.refl _ _)))
end
section
variable {α : Type} {w : World} {e : TypeId} {D : Nat → TypeId → Prop}
theorem Ow.ss {c : α → List Value} {lo size n : Nat} {v : Value} {l : List Value} {xs : List α} (h : Ow w lo e size v n l) (hl : l = (xs.map c).flatten) (hn : n = xs.length) (hs : 0 < size) (hc : ∀ x ∈ xs, (c x).length = size) (hD : ∀ b, lo ≤ b → D b e) : Ss c size D w v xs := by
  subst hl hn
  exact ⟨⟨hs, hc⟩, h.sc hD⟩
theorem Ow.sg {g : α → Value} {lo n : Nat} {v : Value} {l : List Value} {xs : List α} (h : Ow w lo e 1 v n l) (hl : l = xs.map g) (hn : n = xs.length) (hD : ∀ b, lo ≤ b → D b e) : Sg g D w v xs := by
  subst hl hn
  exact h.sc hD
theorem Bk.ss {c : α → List Value} {b size n : Nat} {l : List Value} {xs : List α} (h : Bk w b e l) (hd : D b e) (hl : l = (xs.map c).flatten) (hn : n = xs.length) (hs : 0 < size) (hc : ∀ x ∈ xs, (c x).length = size) (hm : n ≤ 9223372036854775807) : Ss c size D w (.slice (some ⟨b, 0, none⟩) n n) xs := by
  subst hn
  refine ⟨⟨hs, hc⟩, ?_⟩
  rw [← hl]
  refine h.sc hd ?_ hm
  rw [hl, List.length_flatten, List.map_map]
  rw [List.map_congr_left (f := List.length ∘ c) (g := fun _ => size) (fun x hx => hc x hx)]
  generalize xs = ys
  clear h hc hd hl hm
  induction ys with
  | nil => simp
  | cons y ys ih => rw [List.map_cons, List.sum_cons, ih, List.length_cons, Nat.succ_mul, Nat.add_comm]
theorem Bk.sg {g : α → Value} {b n : Nat} {l : List Value} {xs : List α} (h : Bk w b e l) (hd : D b e) (hl : l = xs.map g) (hn : n = xs.length) (hm : n ≤ 9223372036854775807) : Sg g D w (.slice (some ⟨b, 0, none⟩) n n) xs := by
  subst hn
  subst hl
  exact h.sc hd (by simp) hm
theorem Bk.ar {g : α → Value} {b n : Nat} {l : List Value} {xs : List α} (h : Bk w b e l) (hl : l = xs.map g) (hn : xs.length = n) : Ar g w b e 0 xs n := ⟨⟨[], [], rfl, by subst hl; simpa using h⟩, hn⟩
end
end Go.Vg
