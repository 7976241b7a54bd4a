/-
  MEMORY: what a row of cells reads as, what keeps it so, and what the operations do that read, write or make memory.
-/
import Derived.Test.YtppgppnkhpjlpaaVgc
namespace Go.Vg
open Go.RowKit

/-! ### worlds -/
abbrev Ext (w w' : World) : Prop := Below w.heap.size w w'
theorem Ext.trans {a b c : World} (h : Ext a b) (k : Ext b c) : Ext a c := Below.trans h (Below.mono k h.size)
theorem Ext.refl (w : World) : Ext w w := Below.refl _ _
theorem Ext.drew (w : World) : Ext w w.drew := (Below.refl _ _).drew
/-- the old part of a call's world -/
theorem Below.ext {B : Nat} {w0 w w' : World} (h : Below B w0 w) (hB : B ≤ w.heap.size) (k : Ext w w') : Below B w0 w' := h.trans (k.mono hB)

/-- All blocks but b are as they were; nothing has gone. -/
structure Exc (b : Nat) (w w' : World) : Prop where
  os : w'.os = w.os
  tape : w'.tape = w.tape
  output : w'.output = w.output
  size : w.heap.size ≤ w'.heap.size
  block : ∀ k, k < w.heap.size → k ≠ b → w'.heap[k]? = w.heap[k]?
theorem Below.exc {B b : Nat} {w0 w w' : World} (h : Below B w0 w) (hB : B ≤ w.heap.size) (k : Exc b w w') (hb : B ≤ b) : Below B w0 w' :=
  h.trans ⟨k.os, k.tape, k.output, k.size, fun i hi => k.block i (by omega) (by omega)⟩
theorem Exc.of_ext {b : Nat} {w w' : World} (h : Ext w w') : Exc b w w' := ⟨h.os, h.tape, h.output, h.size, fun k hk _ => h.block k hk⟩
theorem Exc.trans {b : Nat} {a c d : World} (h : Exc b a c) (k : Exc b c d) : Exc b a d :=
  ⟨k.os.trans h.os, k.tape.trans h.tape, k.output.trans h.output, Nat.le_trans h.size k.size, fun i hi hb => (k.block i (Nat.lt_of_lt_of_le hi h.size) hb).trans (h.block i hi hb)⟩

/-- The blocks that D names are as they were. -/
def Sm (D : Nat → TypeId → Prop) (w w' : World) : Prop := ∀ b cs T fz, w.heap[b]? = some (.cells cs T fz) → D b T → w'.heap[b]? = some (.cells cs T fz)
theorem lt_of_heap {w : World} {b : Nat} {o : Obj} (h : w.heap[b]? = some o) : b < w.heap.size := (Array.getElem?_eq_some_iff.1 h).1
theorem Sm.refl {D : Nat → TypeId → Prop} (w : World) : Sm D w w := fun _ _ _ _ h _ => h
theorem Sm.trans {D : Nat → TypeId → Prop} {a b c : World} (h : Sm D a b) (k : Sm D b c) : Sm D a c := fun _ _ _ _ hh hd => k _ _ _ _ (h _ _ _ _ hh hd) hd
theorem _root_.Go.RowKit.Below.sm {D : Nat → TypeId → Prop} {B : Nat} {w w' : World} (h : Below B w w') (hD : ∀ b T, D b T → b < B) : Sm D w w' :=
  fun b _ T _ hh hd => (h.block b (hD b T hd)).trans hh
theorem Sm.ext {D : Nat → TypeId → Prop} {w w' : World} (h : Ext w w') : Sm D w w' := fun b _ _ _ hh _ => (h.block b (lt_of_heap hh)).trans hh
theorem Sm.exc {D : Nat → TypeId → Prop} {b0 : Nat} {w w' : World} (h : Exc b0 w w') (hD : ∀ cs T fz, w.heap[b0]? = some (.cells cs T fz) → ¬ D b0 T) : Sm D w w' := fun b cs T fz hh hd => by
  have hne : b ≠ b0 := fun e => by subst e; exact hD cs T fz hh hd
  exact (h.block b (lt_of_heap hh) hne).trans hh

/-- A block of the call's own, known whole. -/
def Bk (w : World) (b : Nat) (T : TypeId) (l : List Value) : Prop := w.heap[b]? = some (.cells l.toArray T (0, 0))
theorem Bk.lt {w : World} {b : Nat} {T : TypeId} {l : List Value} (h : Bk w b T l) : b < w.heap.size := lt_of_heap h
theorem Bk.ext {w w' : World} {b : Nat} {T : TypeId} {l : List Value} (h : Bk w b T l) (e : Ext w w') : Bk w' b T l := (e.block b h.lt).trans h
theorem Bk.exc {w w' : World} {b b0 : Nat} {T : TypeId} {l : List Value} (h : Bk w b T l) (e : Exc b0 w w') (hne : b ≠ b0) : Bk w' b T l := (e.block b h.lt hne).trans h
theorem Bk.cell {w : World} {b : Nat} {T : TypeId} {l : List Value} (h : Bk w b T l) {j : Nat} {u : Value} (hj : l[j]? = some u) : w.cell? ⟨b, j, none⟩ = some u := by
  simp only [World.cell?]
  rw [show w.heap[b]? = _ from h]
  simpa using hj
theorem Bk.sm {w : World} {b : Nat} {T : TypeId} {l : List Value} {D : Nat → TypeId → Prop} {w' : World} (h : Bk w b T l) (e : Exc b w w') (hD : ¬ D b T) : Sm D w w' :=
  Sm.exc e fun cs T' fz hh => by
    rw [show w.heap[b]? = _ from h] at hh
    injection hh with hh
    injection hh with _ hT _
    subst hT
    exact hD

/-! ### rows that are read -/
def Rd (D : Nat → TypeId → Prop) (w : World) (b o : Nat) (l : List Value) : Prop := l = [] ∨ ∃ cs T fz, w.heap[b]? = some (.cells cs T fz) ∧ D b T ∧ ∀ j u, l[j]? = some u → cs[o + j]? = some u
section rd
variable {D D' : Nat → TypeId → Prop} {w w' : World} {b o : Nat} {l : List Value}
theorem Rd.tr (h : Rd D w b o l) (hs : Sm D w w') : Rd D w' b o l := by
  rcases h with h | ⟨cs, T, fz, hh, hd, hc⟩
  · exact .inl h
  · exact .inr ⟨cs, T, fz, hs b cs T fz hh hd, hd, hc⟩
theorem Rd.mono (h : Rd D w b o l) (hD : ∀ b T, D b T → D' b T) : Rd D' w b o l := by
  rcases h with h | ⟨cs, T, fz, hh, hd, hc⟩
  · exact .inl h
  · exact .inr ⟨cs, T, fz, hh, hD _ _ hd, hc⟩
theorem Rd.cell (h : Rd D w b o l) {j : Nat} {u : Value} (hj : l[j]? = some u) : w.cell? ⟨b, o + j, none⟩ = some u := by
  rcases h with rfl | ⟨cs, T, fz, hh, hd, hc⟩
  · simp at hj
  · simp only [World.cell?, hh]
    simpa using hc j u hj
theorem Rd.drop (h : Rd D w b o l) (k : Nat) : Rd D w b (o + k) (l.drop k) := by
  rcases h with rfl | ⟨cs, T, fz, hh, hd, hc⟩
  · exact .inl (by simp)
  · refine .inr ⟨cs, T, fz, hh, hd, fun j u hj => ?_⟩
    rw [Nat.add_assoc]
    exact hc (k + j) u (by rw [← hj, List.getElem?_drop])
theorem Rd.take (h : Rd D w b o l) (k : Nat) : Rd D w b o (l.take k) := by
  rcases h with rfl | ⟨cs, T, fz, hh, hd, hc⟩
  · exact .inl (by simp)
  · refine .inr ⟨cs, T, fz, hh, hd, fun j u hj => ?_⟩
    rw [List.getElem?_take] at hj
    split at hj
    · exact hc j u hj
    · cases hj
theorem Bk.rd {T : TypeId} {m : Nat} (h : Bk w b T l) (hd : D b T) : Rd D w b m (l.drop m) :=
  .inr ⟨l.toArray, T, (0, 0), h, hd, fun j u hj => by rw [List.getElem?_drop] at hj; simpa using hj⟩
end rd

/-- A slice value of n elements, 'size' cells each, whose cells are l. -/
def Sc (D : Nat → TypeId → Prop) (w : World) (size : Nat) (v : Value) (n : Nat) (l : List Value) : Prop :=
  ∃ A c, v = .slice A n c ∧ n ≤ c ∧ c ≤ maxLen ∧ l.length = n * size ∧ (l = [] ∨ ∃ b o, A = some ⟨b, o, none⟩ ∧ Rd D w b o l)
section sc
variable {D D' : Nat → TypeId → Prop} {w w' : World} {size n : Nat} {v : Value} {l : List Value}
theorem Sc.tr (h : Sc D w size v n l) (hs : Sm D w w') : Sc D w' size v n l := by
  obtain ⟨A, c, rfl, h1, h2, h3, h4⟩ := h
  exact ⟨A, c, rfl, h1, h2, h3, h4.imp id fun ⟨b, o, e, r⟩ => ⟨b, o, e, r.tr hs⟩⟩
theorem Sc.mono (h : Sc D w size v n l) (hD : ∀ b T, D b T → D' b T) : Sc D' w size v n l := by
  obtain ⟨A, c, rfl, h1, h2, h3, h4⟩ := h
  exact ⟨A, c, rfl, h1, h2, h3, h4.imp id fun ⟨b, o, e, r⟩ => ⟨b, o, e, r.mono hD⟩⟩
theorem Sc.nil : Sc D w size (.slice none 0 0) 0 [] := ⟨none, 0, rfl, Nat.le_refl _, by simp [maxLen], by simp, .inl rfl⟩
end sc

/-! ### types -/
structure TyI (P : Program) (e : TypeId) (size bytes : Nat) (z : Value) : Prop where
  mk' ::
  ex : ∃ i, P.info? e = some i ∧ i.zero = some z ∧ i.size = size ∧ i.bytes = bytes
theorem TyI.of {P : Program} {e : TypeId} {size bytes : Nat} {z : Value} (h : (P.info? e).map (fun i => (i.zero, i.size, i.bytes)) = some (some z, size, bytes)) : TyI P e size bytes z := by
  obtain ⟨i, h1, h2, h3, h4⟩ := info_parts h
  exact ⟨i, h1, h2, h3, h4⟩
def aggB (P : Program) (t : TypeId) : Bool := match P.underlying t with
  | some (.struct _) | some (.array _ _) => true
  | _ => false

theorem run_isAgg {P : Program} {t : TypeId} {d : TypeDesc} (hu : P.underlying t = some d) (w : World) : (isAgg t).run P w = .ok (aggB P t) w := by
  unfold isAgg aggB
  simp only [Sem.run_bind, run_underlying hu, Result.andThen_ok, hu]
  cases d <;> rfl

section ops
variable {P : Program} {f : Nat → Value} {w : World} {dst : Option Tmp} {ty : TypeId} {pos : String} {aft : Array Edge} {g : Option (Nat × Bool)} {x y z : Operand} {t t' e : TypeId}

theorem add_spotless (b o n : Nat) : (⟨b, o, none⟩ : Addr).add n = ⟨b, o + n, none⟩ := by
  unfold Addr.add
  split
  · simp_all
  · rfl

theorem r_load {d : TypeDesc} {p : Addr} {v : Value} (hu : P.underlying t = some d) (hb : aggB P t = false) (hx : ev f x = .pointer (some p)) (hc : w.cell? p = some v) :
    (execOp (ev f) ⟨dst, .load t x, ty, pos, aft, g⟩).run P w = .ok (.value v) w := by
  simp [execOp, hx, Instr.loadAt, Instr.sureAddr, loadVar, run_isAgg hu, hb, load, Sem.run, hc]

theorem r_loada {d : TypeDesc} {b o : Nat} {cs : List Value} {bytes : Nat} {zz : Value} (hu : P.underlying t = some d) (hb : aggB P t = true) (ht : TyI P t cs.length bytes zz) (hx : ev f x = .pointer (some ⟨b, o, none⟩)) (hc : ∀ j u, cs[j]? = some u → w.cell? ⟨b, o + j, none⟩ = some u) :
    (execOp (ev f) ⟨dst, .load t x, ty, pos, aft, g⟩).run P w = .ok (.value (.agg cs.toArray)) w := by
  obtain ⟨i, hi, _, hs, _⟩ := ht.ex
  have h := run_loadCells_list (P := P) w (⟨b, o, none⟩ : Addr) cs (fun j u hj => by rw [add_spotless]; exact hc j u hj)
  simp [execOp, hx, Instr.loadAt, Instr.sureAddr, loadVar, run_isAgg hu, hb, sizeOf, typeInfo, hi, hs, h]

theorem r_field {d : TypeDesc} {fs : Array Field} {fl : Field} {i : Nat} {cs : Array Value} {v : Value} (hu : P.underlying t = some (.struct fs)) (hf : fs[i]? = some fl) (hd : P.underlying fl.type = some d) (hb : aggB P fl.type = false)
    (hx : ev f x = .agg cs) (hc : cs[fl.offset]? = some v) : (execOp (ev f) ⟨dst, .field t x i, ty, pos, aft, g⟩).run P w = .ok (.value v) w := by
  simp [execOp, hx, Instr.field, run_underlying hu, hf, asAgg, part, run_isAgg hd, hb, hc]
theorem r_fielda {d : TypeDesc} {fs : Array Field} {fl : Field} {i size bytes : Nat} {zz : Value} {cs : Array Value} (hu : P.underlying t = some (.struct fs)) (hf : fs[i]? = some fl) (hd : P.underlying fl.type = some d) (hb : aggB P fl.type = true) (ht : TyI P fl.type size bytes zz)
    (hx : ev f x = .agg cs) : (execOp (ev f) ⟨dst, .field t x i, ty, pos, aft, g⟩).run P w = .ok (.value (.agg (cs.extract fl.offset (fl.offset + size)))) w := by
  obtain ⟨ii, hi, _, hs, _⟩ := ht.ex
  simp [execOp, hx, Instr.field, run_underlying hu, hf, asAgg, part, run_isAgg hd, hb, sizeOf, typeInfo, hi, hs]

theorem r_fieldAddr {fs : Array Field} {fl : Field} {i size bytes : Nat} {zz : Value} {b o : Nat} (hu : P.underlying t = some (.struct fs)) (hf : fs[i]? = some fl) (ht : TyI P fl.type (size + 1) bytes zz) (hx : ev f x = .pointer (some ⟨b, o, none⟩)) :
    (execOp (ev f) ⟨dst, .fieldAddr t x i, ty, pos, aft, g⟩).run P w = .ok (.value (.pointer (some ⟨b, o + fl.offset, none⟩))) w := by
  obtain ⟨ii, hi, _, hs, _⟩ := ht.ex
  simp [execOp, hx, Instr.fieldAt, Instr.sureAddr, run_underlying hu, hf, fieldPlace, sizeOf, typeInfo, hi, hs, add_spotless]

theorem r_indexAddr {k : IntKind} {i : Int} {b o n c size bytes : Nat} {zz : Value} (hu : P.underlying t = some (.slice e)) (ht : TyI P e size bytes zz) (hx : ev f x = .slice (some ⟨b, o, none⟩) n c) (hy : ev f y = .int k i) (h0 : 0 ≤ i) (h1 : i < n) :
    (execOp (ev f) ⟨dst, .indexAddr t x y, ty, pos, aft, g⟩).run P w = .ok (.value (.pointer (some ⟨b, o + i.toNat * size, none⟩))) w := by
  obtain ⟨ii, hi, _, hs, _⟩ := ht.ex
  simp [execOp, hx, hy, Instr.indexAt, asIntOf, run_underlying hu, sizeOf, typeInfo, hi, hs, h0, h1, add_spotless]

/-- x[:h] -/
theorem r_slice_h {k : IntKind} {A : Option Addr} {n c size bytes : Nat} {h : Int} {zz : Value} (hu : P.underlying t = some (.slice e)) (ht : TyI P e size bytes zz) (hx : ev f x = .slice A n c) (hy : ev f y = .int k h) (h0 : 0 ≤ h) (h1 : h ≤ c) :
    (execOp (ev f) ⟨dst, .slice t x none (some y) none, ty, pos, aft, g⟩).run P w = .ok (.value (.slice A h.toNat c)) w := by
  obtain ⟨ii, hi, _, hs, _⟩ := ht.ex
  have hz : ∀ o : Option Addr, (o.map fun a => a.add 0) = o := fun o => by cases o <;> simp [Addr.add]
  simp [execOp, hx, hy, Instr.sliceAt, Instr.slice, Instr.sliceBounds, Instr.sliceBound, asIntOf, run_underlying hu, sizeOf, typeInfo, hi, hs, h0, h1, hz]
/-- x[l:] -/
theorem r_slice_l {k : IntKind} {A : Option Addr} {n c size bytes : Nat} {l : Int} {zz : Value} (hu : P.underlying t = some (.slice e)) (ht : TyI P e size bytes zz) (hx : ev f x = .slice A n c) (hy : ev f y = .int k l) (h0 : 0 ≤ l) (h1 : l ≤ n) :
    (execOp (ev f) ⟨dst, .slice t x (some y) none none, ty, pos, aft, g⟩).run P w = .ok (.value (.slice (if c = l.toNat then A else A.map (·.add (l.toNat * size))) (n - l.toNat) (c - l.toNat))) w := by
  obtain ⟨ii, hi, _, hs, _⟩ := ht.ex
  simp [execOp, hx, hy, Instr.sliceAt, Instr.slice, Instr.sliceBounds, Instr.sliceBound, asIntOf, run_underlying hu, sizeOf, typeInfo, hi, hs, h0, h1]
/-- x[l:h] -/
theorem r_slice_lh {k k' : IntKind} {A : Option Addr} {n c size bytes : Nat} {l h : Int} {zz : Value} (hu : P.underlying t = some (.slice e)) (ht : TyI P e size bytes zz) (hx : ev f x = .slice A n c) (hy : ev f y = .int k l) (hz : ev f z = .int k' h) (h0 : 0 ≤ l) (h1 : l ≤ h) (h2 : h ≤ c) :
    (execOp (ev f) ⟨dst, .slice t x (some y) (some z) none, ty, pos, aft, g⟩).run P w = .ok (.value (.slice (if c = l.toNat then A else A.map (·.add (l.toNat * size))) (h.toNat - l.toNat) (c - l.toNat))) w := by
  obtain ⟨ii, hi, _, hs, _⟩ := ht.ex
  have h3 : 0 ≤ h := by omega
  have h4 : l ≤ (h.toNat : Int) := by omega
  simp [execOp, hx, hy, hz, Instr.sliceAt, Instr.slice, Instr.sliceBounds, Instr.sliceBound, asIntOf, run_underlying hu, sizeOf, typeInfo, hi, hs, h0, h1, h2, h3]
  intro hh
  omega
end ops

/-! ### operations that make or write memory -/
def Run (P : Program) (f : Nat → Value) (o : Oper) (w : World) (R : Value → World → Prop) : Prop := ∃ v w', (execOp (ev f) o).run P w = .ok (.value v) w' ∧ R v w'
def RunS (P : Program) (f : Nat → Value) (o : Oper) (w : World) (R : World → Prop) : Prop := ∃ w', (execOp (ev f) o).run P w = .ok .skip w' ∧ R w'
section
variable {P : Program} {n : Nat} {Q : Po} {f : Nat → Value} {w w' : World} {ops : Array Oper} {o : Oper} {rest : List Oper} {d : Nat} {R : Value → World → Prop} {R0 : World → Prop}
theorem RL.run (hg : o.guard = none) (hd : o.dst = some d) (hn : d < n) (hr : Run P f o w R) (h : ∀ v w', R v w' → RL P n ops rest Q (st f d v) w') : RL P n ops (o :: rest) Q f w := by
  obtain ⟨v, w', hr, hR⟩ := hr
  exact RL.val hg hd hn hr (h v w' hR)
theorem RL.run0 (hg : o.guard = none) (hd : o.dst = none) (hr : Run P f o w R) (h : ∀ v w', R v w' → RL P n ops rest Q f w') : RL P n ops (o :: rest) Q f w := by
  obtain ⟨v, w', hr, hR⟩ := hr
  exact RL.val0 hg hd hr (h v w' hR)
theorem RL.runs (hg : o.guard = none) (hd : o.dst = none) (hr : RunS P f o w R0) (h : ∀ w', R0 w' → RL P n ops rest Q f w') : RL P n ops (o :: rest) Q f w := by
  obtain ⟨w', hr, hR⟩ := hr
  exact RL.skip hg hd hr (h w' hR)
variable {S : World → Prop} {fuel : Nat} {listed : Array Bool} {i : Nat} {rs : List Nat}
theorem RS.run (hi : ops[i]? = some o) (hg : o.guard = none) (hd : o.dst = some d) (hn : d < n) (hr : Run P f o w R) (h : ∀ v w', R v w' → Oks ops S i w w' ∧ RA P n ops Q S fuel (listed.setIfInBounds i true) (st f d v) w')
    (hs : RS P n ops Q S fuel listed f w rs) : RS P n ops Q S fuel listed f w (i :: rs) := by
  obtain ⟨v, w', hr, hR⟩ := hr
  exact RS.val hi hg hd hn hr (h v w' hR).1 (h v w' hR).2 hs
theorem RS.runs (hi : ops[i]? = some o) (hg : o.guard = none) (hd : o.dst = none) (hr : RunS P f o w R0) (h : ∀ w', R0 w' → Oks ops S i w w' ∧ RA P n ops Q S fuel (listed.setIfInBounds i true) f w')
    (hs : RS P n ops Q S fuel listed f w rs) : RS P n ops Q S fuel listed f w (i :: rs) := by
  obtain ⟨w', hr, hR⟩ := hr
  exact RS.skip hi hg hd hr (h w' hR).1 (h w' hR).2 hs
end

/-- l with vs laid over it from o on -/
def spl (l : List Value) (o : Nat) (vs : List Value) : List Value := l.take o ++ vs ++ l.drop (o + vs.length)

section heavy
variable {P : Program} {f : Nat → Value} {w : World} {dst : Option Tmp} {ty : TypeId} {pos : String} {aft : Array Edge} {g : Option (Nat × Bool)} {x y z : Operand} {t t' e : TypeId}

theorem ext_alloc (w : World) (o : Obj) : Ext w (w.alloc o) := (Below.refl _ _).alloc (Nat.le_refl _) o
theorem bk_alloc (w : World) (T : TypeId) (l : List Value) : Bk (w.alloc (.cells l.toArray T)) w.heap.size T l := heap_alloc_new w _

/-- what a new block of one's own is -/
def Mk (w : World) (T : TypeId) (l : List Value) (b : Nat) (w' : World) : Prop := b = w.heap.size ∧ Bk w' b T l ∧ Ext w w'

theorem h_box {vv : Value} {cs : List Value} (hx : ev f x = vv) (hc : vv.cells = cs.toArray) : Run P f ⟨dst, .box t x, ty, pos, aft, g⟩ w fun v w' => ∃ b, v = .pointer (some ⟨b, 0, none⟩) ∧ Mk w t cs b w' :=
  ⟨_, _, by simp [execOp, hx, Instr.box, newVar, newRow, hc], _, rfl, rfl, bk_alloc w t cs, ext_alloc w _⟩
theorem h_alloc {size bytes : Nat} {zz : Value} {cs : List Value} (ht : TyI P t size bytes zz) (hc : zz.cells = cs.toArray) : Run P f ⟨dst, .alloc t, ty, pos, aft, g⟩ w fun v w' => ∃ b, v = .pointer (some ⟨b, 0, none⟩) ∧ Mk w t cs b w' := by
  obtain ⟨i, hi, hz, _, _⟩ := ht.ex
  exact ⟨_, _, by simp [execOp, Instr.alloc, zeroValue, typeInfo, hi, hz, newVar, newRow, hc], _, rfl, rfl, bk_alloc w t cs, ext_alloc w _⟩

theorem exc_setRow (w : World) (b : Nat) (cs : Array Value) : Exc b w (w.setRow b cs) :=
  ⟨rfl, rfl, rfl, by simp [World.setRow], fun k _ hne => by simp [World.setRow, Array.getElem?_modify, Ne.symm hne]⟩

/-- a store of one cell or of many into a block of one's own -/
theorem h_store {T : TypeId} {b o : Nat} {l : List Value} {vv : Value} {cs : List Value} {size bytes : Nat} {zz : Value} (ht : TyI P t size bytes zz) (hx : ev f x = .pointer (some ⟨b, o, none⟩)) (hy : ev f y = vv) (hc : vv.cells = cs.toArray) (hs : cs.length = size)
    (h1 : ∀ u ∈ cs, u.oneCell' = true) (hb : Bk w b T l) (hfit : o + cs.length ≤ l.length) :
    RunS P f ⟨dst, .store t x y, ty, pos, aft, g⟩ w fun w' => Bk w' b T (spl l o cs) ∧ Exc b w w' ∧ w'.heap.size = w.heap.size := by
  obtain ⟨i, hi, _, hsz, _⟩ := ht.ex
  have hst := run_storeCells_at P b o T cs 0 l.toArray w hb (by simpa using hfit) h1
  simp only [Nat.add_zero] at hst
  refine ⟨w.setRow b (spl l o cs).toArray, ?_, ?_, exc_setRow _ _ _, by simp [World.setRow]⟩
  · simp [execOp, hx, hy, Instr.storeAt, Instr.sureAddr, storeVar, hc, hs, hsz, sizeOf, typeInfo, hi, hst, spl]
  · exact setRow_heap w b l.toArray _ T (0, 0) hb
end heavy
end Go.Vg
