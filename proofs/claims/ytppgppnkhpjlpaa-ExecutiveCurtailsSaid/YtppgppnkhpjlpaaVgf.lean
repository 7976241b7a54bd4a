/-
  NEW ROWS: make, a literal, append onto a slice of one's own, copy.
-/
import Derived.Test.YtppgppnkhpjlpaaVge
import Derived.Maps.AppendAt
namespace Go.Vg
open Go.RowKit

theorem madeCells_one (z : Value) (n : Nat) (h : z.cells = #[z]) : (madeCells z.cells n).toList = List.replicate n z := by
  rw [h]
  apply List.ext_getElem
  · simp [madeCells]
  · intro i h1 h2
    simp [madeCells, Nat.mod_one]

theorem made_flat (z : Array Value) (n : Nat) : (madeCells z (n * z.size)).toList = (List.replicate n z.toList).flatten := by
  induction n with
  | zero => simp [madeCells]
  | succ n ih =>
    rw [List.replicate_succ', List.flatten_append, ← ih]
    apply List.ext_getElem
    · simp [madeCells, Nat.add_mul]
    · intro i h1 h2
      simp only [madeCells, Array.toList_map, Array.toList_range, List.getElem_map, List.getElem_range, List.flatten_cons, List.flatten_nil, List.append_nil] at *
      by_cases hi : i < n * z.size
      · rw [List.getElem_append_left (by simpa using hi)]
        simp
      · rw [List.getElem_append_right (by simpa using hi)]
        simp only [List.length_map, List.length_range]
        have h3 : i < n * z.size + z.size := by simpa [madeCells, Nat.add_mul] using h1
        have h4 : i % z.size = i - n * z.size := by
          obtain ⟨k, rfl⟩ : ∃ k, i = n * z.size + k := ⟨i - n * z.size, by omega⟩
          rw [Nat.mul_comm, Nat.mul_add_mod, Nat.mod_eq_of_lt (by omega)]
          omega
        rw [h4, getElem!_pos z (i - n * z.size) (by omega)]
        simp

theorem cast_room {b n : Nat} (h : b * n ≤ 281474976710656) : (b : Int) * (n : Int) ≤ 281474976710656 := by
  have : ((b * n : Nat) : Int) ≤ 281474976710656 := by omega
  rwa [Int.natCast_mul] at this

section heavy
variable {P : Program} {f : Nat → Value} {w : World} {dst : Option Tmp} {ty : TypeId} {pos : String} {aft : Array Edge} {g : Option (Nat × Bool)} {x y z : Operand} {t t' e : TypeId} {D : Nat → TypeId → Prop}

/-- make([]T, n), an element of one cell -/
theorem h_make1 {k k' : IntKind} {n : Nat} {zz : Value} {bytes : Nat} (hu : P.underlying t = some (.slice e)) (ht : TyI P e 1 bytes zz) (hz : zz.cells = #[zz]) (hx : ev f x = .int k (n : Int)) (hy : ev f y = .int k' (n : Int)) (hb : bytes * n ≤ 281474976710656) (h63 : n ≤ 9223372036854775807) :
    Run P f ⟨dst, .makeSlice t x y, ty, pos, aft, g⟩ w fun v w' => ∃ b, v = .slice (some ⟨b, 0, none⟩) n n ∧ Mk w e (List.replicate n zz) b w' := by
  obtain ⟨i, hi, hzi, hs, hby⟩ := ht.ex
  have hr := run_make (P := P) w t e i zz hu hi hzi k k' n n (by omega) (Int.le_refl _) (by rw [hby]; exact cast_room hb) (by omega)
  simp only [Int.toNat_natCast, hs, Nat.mul_one] at hr
  refine ⟨.slice (some ⟨w.heap.size, 0, none⟩) n n, w.alloc (.cells (madeCells zz.cells n) e), by simp only [execOp, hx, hy, Sem.run_bind, hr, Result.andThen_ok, Sem.run_pure], _, rfl, rfl, ?_, ext_alloc w _⟩
  have h := bk_alloc w e (List.replicate n zz)
  rw [← madeCells_one zz n hz] at h ⊢
  simpa using h
/-- make([]T, n), an element of many cells -/
theorem h_make {k k' : IntKind} {n c : Nat} {zz : Value} {size bytes : Nat} (hu : P.underlying t = some (.slice e)) (ht : TyI P e size bytes zz) (hz : zz.cells.size = size) (hx : ev f x = .int k (n : Int)) (hy : ev f y = .int k' (c : Int)) (hnc : n ≤ c) (hb : bytes * c ≤ 281474976710656) (h63 : c ≤ 9223372036854775807) :
    Run P f ⟨dst, .makeSlice t x y, ty, pos, aft, g⟩ w fun v w' => ∃ b, v = .slice (some ⟨b, 0, none⟩) n c ∧ Mk w e (List.replicate c zz.cells.toList).flatten b w' := by
  obtain ⟨i, hi, hzi, hs, hby⟩ := ht.ex
  have hr := run_make (P := P) w t e i zz hu hi hzi k k' n c (by omega) (by omega) (by rw [hby]; exact cast_room hb) (by omega)
  simp only [Int.toNat_natCast, hs, ← hz] at hr
  refine ⟨.slice (some ⟨w.heap.size, 0, none⟩) n c, w.alloc (.cells (madeCells zz.cells (c * zz.cells.size)) e), by simp only [execOp, hx, hy, Sem.run_bind, hr, Result.andThen_ok, Sem.run_pure], _, rfl, rfl, ?_, ext_alloc w _⟩
  have h := bk_alloc w e (List.replicate c zz.cells.toList).flatten
  rw [← made_flat] at h ⊢
  simpa using h

/-- []T{..} -/
theorem h_lit {len size bytes : Nat} {zz : Value} {al : List (Nat × Operand)} {vl : List (Nat × Value)} {cs : List Value} (hu : P.underlying t = some (.slice e)) (ht : TyI P e size bytes zz) (ha : al.map (fun p => (p.1, ev f p.2)) = vl) (hbig : len * size ≤ 16777216)
    (hf : Instr.fill (fun i => some (i * size, size)) ((Array.range (len * size)).map ((if len * size = 0 then #[] else zz.cells)[· % (if len * size = 0 then #[] else zz.cells).size]!)) vl = some cs.toArray) :
    Run P f ⟨dst, .buildSlice t len al.toArray, ty, pos, aft, g⟩ w fun v w' => ∃ b, v = .slice (some ⟨b, 0, none⟩) len len ∧ Mk w e cs b w' := by
  obtain ⟨i, hi, hzi, hs, hby⟩ := ht.ex
  subst ha
  have hn : ¬ (16777216 < len * size) := by omega
  refine ⟨.slice (some ⟨w.heap.size, 0, none⟩) len len, w.alloc (.cells cs.toArray e), ?_, _, rfl, rfl, bk_alloc w e cs, ext_alloc w _⟩
  by_cases h0 : len * size = 0
  · simp only [h0, if_true] at hf
    simp [execOp, Instr.buildSlice, run_underlying hu, sizeOf, typeInfo, hi, hs, h0, newRow]
    try simp at hf
    simp [hf]
  · simp only [h0, if_false] at hf
    simp [execOp, Instr.buildSlice, run_underlying hu, sizeOf, typeInfo, hi, hs, h0, hn, zeroValue, hzi, newRow]
    try simp at hf
    simp [hf]

/-- T{..}, a struct -/
theorem r_build {al : List (Nat × Operand)} {vl : List (Nat × Value)} {fs : Array Field} {pl : Array (Nat × Nat)} {zz : Value} {size bytes : Nat} {cs : List Value} (hu : P.underlying t = some (.struct fs)) (ht : TyI P t size bytes zz) (ha : al.map (fun p => (p.1, ev f p.2)) = vl)
    (hp : ∀ w, (fs.mapM fun (fl : Field) => (do pure (fl.offset, ← sizeOf fl.type) : Sem (Nat × Nat))).run P w = .ok pl w) (hf : Instr.fill (pl[·]?) zz.cells vl = some cs.toArray) :
    (execOp (ev f) ⟨dst, .build t al.toArray, ty, pos, aft, g⟩).run P w = .ok (.value (.agg cs.toArray)) w := by
  obtain ⟨i, hi, hzi, hs, hby⟩ := ht.ex
  subst ha
  have hzv : (zeroValue t).run P w = .ok zz w := by simp [zeroValue, typeInfo, hi, hzi]
  simp only [execOp, Instr.build, Sem.run_bind, hzv, Result.andThen_ok, run_underlying hu, hp, List.map_toArray]
  rw [hf]
  simp

/-! append onto a slice of one's own -/
abbrev Ow (w : World) (lo : Nat) (e : TypeId) (size : Nat) (v : Value) (n : Nat) (l : List Value) : Prop := w.ownsRow lo e size v n l
theorem Ow.sc {lo size n : Nat} {v : Value} {l : List Value} (h : Ow w lo e size v n l) (hD : ∀ b, lo ≤ b → D b e) : Sc D w size v n l := by
  obtain ⟨h1, h2⟩ := h
  rcases h2 with ⟨rfl, rfl⟩ | ⟨b, cap, cur, rfl, hb, hh, hc, hm, hs, ht⟩
  · exact ⟨none, 0, rfl, Nat.le_refl _, by simp [maxLen], h1, .inl (List.eq_nil_of_length_eq_zero (by simpa using h1))⟩
  · refine ⟨some ⟨b, 0, none⟩, cap, rfl, hc, hm, h1, .inr ⟨b, 0, rfl, .inr ⟨cur, e, (0, 0), hh, hD b hb, fun j u hj => ?_⟩⟩⟩
    rw [← ht, List.getElem?_take] at hj
    split at hj
    · simpa using hj
    · cases hj
theorem Ow.sm {w' : World} {lo size n : Nat} {v : Value} {l : List Value} (h : Ow w lo e size v n l) (hg : w.grownBy w' v.ownBlock) (hD : ∀ b, lo ≤ b → ¬ D b e) : Sm D w w' := by
  intro b cs T fz hh hd
  refine (hg.block b (lt_of_heap hh) (fun he => ?_)).trans hh
  rcases h.2 with ⟨rfl, _⟩ | ⟨b', cap, cur, rfl, hb, hh', _⟩
  · simp [Value.ownBlock] at he
  · simp [Value.ownBlock] at he
    subst he
    rw [hh'] at hh
    injection hh with hh
    injection hh with _ hT _
    subst hT
    exact hD _ hb hd
theorem Ow.bk {w' : World} {lo size n b : Nat} {T : TypeId} {v : Value} {l l' : List Value} (h : Ow w lo e size v n l) (hg : w.grownBy w' v.ownBlock) (hb : Bk w b T l') (hne : b < lo ∨ T ≠ e) : Bk w' b T l' := by
  refine (hg.block b hb.lt (fun he => ?_)).trans hb
  rcases h.2 with ⟨rfl, _⟩ | ⟨b', cap, cur, rfl, hlo, hh', _⟩
  · simp [Value.ownBlock] at he
  · simp [Value.ownBlock] at he
    subst he
    rcases hne with h | h
    · omega
    · unfold Bk at hb
      rw [hh'] at hb
      injection hb with hb
      injection hb with _ hT _
      exact h hT.symm
theorem Ow.below {w0 w' : World} {B lo size n : Nat} {v : Value} {l : List Value} (h : Ow w lo e size v n l) (hg : w.grownBy w' v.ownBlock) (hE : Below B w0 w) (hB : B ≤ lo) (hs : B ≤ w.heap.size) : Below B w0 w' :=
  hE.grown hg hs (fun k hk => by have := h.lt k hk; omega)
theorem Ow.ext {w' : World} {lo size n : Nat} {v : Value} {l : List Value} (h : Ow w lo e size v n l) (hE : Ext w w') : Ow w' lo e size v n l :=
  h.kept (row := none) ⟨hE.os, hE.tape, hE.output, hE.size, fun k hk _ => hE.block k hk⟩ (by cases hv : v.ownBlock <;> simp)
theorem Ow.exc {w' : World} {lo size n b0 : Nat} {v : Value} {l l0 : List Value} {T0 : TypeId} (h : Ow w lo e size v n l) (hE : Exc b0 w w') (hb : Bk w b0 T0 l0) (hne : b0 < lo ∨ T0 ≠ e) : Ow w' lo e size v n l := by
  refine h.kept (row := some b0) ⟨hE.os, hE.tape, hE.output, hE.size, fun k hk hne => hE.block k hk (fun he => hne (by rw [he]))⟩ ?_
  rcases h.2 with ⟨rfl, _⟩ | ⟨b', cap, cur, rfl, hlo, hh', _⟩
  · exact .inl rfl
  · right
    simp only [Value.ownBlock]
    intro he
    injection he with he
    subst he
    rcases hne with h | h
    · omega
    · unfold Bk at hb
      rw [hh'] at hb
      injection hb with hb
      injection hb with _ hT _
      exact h hT.symm
theorem Ow.mono {lo lo' size n : Nat} {v : Value} {l : List Value} (h : Ow w lo e size v n l) (hl : lo' ≤ lo) : Ow w lo' e size v n l := by
  refine ⟨h.1, h.2.imp id ?_⟩
  rintro ⟨b, cap, cur, h1, h2, h3⟩
  exact ⟨b, cap, cur, h1, by omega, h3⟩
theorem Ow.made {lo b n size : Nat} {l : List Value} (hb : Bk w b e l) (hlo : lo ≤ b) (hn : l.length = n * size) (hm : n ≤ maxLen) : Ow w lo e size (.slice (some ⟨b, 0, none⟩) n n) n l :=
  ⟨hn, .inr ⟨b, n, l.toArray, rfl, hlo, hb, Nat.le_refl _, hm, by simpa using hn, by simp [← hn]⟩⟩
/-- an empty one with room -/
theorem Ow.room {lo b c size : Nat} {l : List Value} (hb : Bk w b e l) (hlo : lo ≤ b) (hn : l.length = c * size) (hm : c ≤ maxLen) : Ow w lo e size (.slice (some ⟨b, 0, none⟩) 0 c) 0 [] :=
  ⟨by simp, .inr ⟨b, c, l.toArray, rfl, hlo, hb, Nat.zero_le _, hm, by simpa using hn, by simp⟩⟩
theorem Ow.nil (lo size : Nat) : Ow w lo e size (.slice none 0 0) 0 [] := ⟨by simp, .inl ⟨rfl, rfl⟩⟩

theorem h_append {lo size bytes n m : Nat} {zz v1 v2 : Value} {l news : List Value} (hu : P.underlying t = some (.slice e)) (ht : TyI P e size bytes zz) (hz : zz.cells.size = size) (hsz : 0 < size) (hx : ev f x = v1) (hy : ev f y = v2)
    (ho : Ow w lo e size v1 n l) (hs : Sc D w size v2 m news) (h1 : ∀ u ∈ news, u.oneCell' = true) (h63 : n + m ≤ maxLen) (hby : (n + m) * bytes ≤ 140737488355328) (hlo : lo ≤ w.heap.size) :
    Run P f ⟨dst, .call ⟨.builtin .append, #[x, y], #[t, t]⟩, ty, pos, aft, g⟩ w fun v w' => Ow w' lo e size v (n + m) (l ++ news) ∧ w.grownBy w' v1.ownBlock := by
  obtain ⟨i, hi, hzi, hsi, hbi⟩ := ht.ex
  obtain ⟨A, c, rfl, hmc, hcm, hl, hA⟩ := hs
  have key : ∃ v' w', (Builtin.append_ #[t, t] ty #[v1, .slice A m c]).run P w = .ok v' w' ∧ w'.ownsRow lo e size v' (n + m) (l ++ news) ∧ w.grownBy w' v1.ownBlock := by
    rcases hA with rfl | ⟨b, o, rfl, hrd⟩
    · have hm : m = 0 := by
        rcases Nat.eq_zero_or_pos m with h | h
        · exact h
        · exact absurd hl.symm (by have := Nat.mul_pos h hsz; simp; omega)
      subst hm
      cases A with
      | none =>
        refine ⟨v1, w, ?_, by simpa using ho, ⟨rfl, rfl, rfl, Nat.le_refl _, fun _ _ _ => rfl⟩⟩
        rcases ho.2 with ⟨rfl, rfl⟩ | ⟨b, cap, cur, rfl, _, _, hnc, _⟩
        · simp [Builtin.append_, run_underlying hu, sizeOf, typeInfo, hi, Builtin.lenOf, Builtin.firstCells]
        · simp [Builtin.append_, run_underlying hu, sizeOf, typeInfo, hi, Builtin.lenOf, Builtin.firstCells, hnc, storeCells]
      | some ad =>
        obtain ⟨v', w', h1, h2, h3, _⟩ := run_append_own_at (P := P) w lo t ty e i zz size bytes hu hi hzi hsi hbi hz hsz v1 n l ho ad 0 c [] (by simp) (by simp) (by simp) (by simpa using h63) (by simpa using hby) hlo
        exact ⟨v', w', h1, h2, h3⟩
    · obtain ⟨v', w', h1, h2, h3, _⟩ := run_append_own_at (P := P) w lo t ty e i zz size bytes hu hi hzi hsi hbi hz hsz v1 n l ho ⟨b, o, none⟩ m c news hl (fun j u hj => by rw [add_spotless]; exact hrd.cell hj) h1 h63 hby hlo
      exact ⟨v', w', h1, h2, h3⟩
  obtain ⟨v', w', h2, h3, h4⟩ := key
  exact ⟨v', w', by simp [execOp, resolve, invoke, builtin, hx, hy, h2], h3, h4⟩

/-- copy into a block of one's own -/
theorem h_copy {b o dl dc n m size bytes : Nat} {zz v2 : Value} {l cs : List Value} (hu : P.underlying t = some (.slice e)) (ht : TyI P e size bytes zz) (hx : ev f x = .slice (some ⟨b, o, none⟩) dl dc) (hy : ev f y = v2)
    (hb : Bk w b e l) (hs : Sc D w size v2 m cs) (hm : m ≤ dl) (hn : n = m) (h1 : ∀ u ∈ cs, u.oneCell' = true) (hfit : o + cs.length ≤ l.length) :
    Run P f ⟨dst, .call ⟨.builtin .copy, #[x, y], #[t, t']⟩, ty, pos, aft, g⟩ w fun v w' => v = .int .i64 n ∧ Bk w' b e (spl l o cs) ∧ Exc b w w' := by
  obtain ⟨i, hi, hzi, hsi, hbi⟩ := ht.ex
  obtain ⟨A, c, rfl, hmc, hcm, hl, hA⟩ := hs
  subst hn
  have hmin : min n dl = n := Nat.min_eq_left hm
  refine ⟨.int .i64 n, w.setRow b (spl l o cs).toArray, ?_, rfl, setRow_heap w b l.toArray _ e (0, 0) hb, exc_setRow _ _ _⟩
  have hst := run_storeCells_at P b o e cs 0 l.toArray w hb (by simpa using hfit) h1
  simp only [Nat.add_zero] at hst
  have hfc : (Builtin.firstCells size n (.slice A n c)).run P w = .ok cs.toArray w := by
    rcases hA with rfl | ⟨b', o', rfl, hrd⟩
    · cases A with
      | none => simp [Builtin.firstCells]
      | some ad =>
        have := run_loadCells_list (P := P) w ad [] (by simp)
        simp only [Builtin.firstCells, ← hl]
        simpa using this
    · have := run_loadCells_list (P := P) w ⟨b', o', none⟩ cs (fun j u hj => by rw [add_spotless]; exact hrd.cell hj)
      simp only [Builtin.firstCells, ← hl]
      exact this
  simp [execOp, resolve, invoke, builtin, Builtin.copy_, hx, hy, run_underlying hu, Builtin.lenOf, sizeOf, typeInfo, hi, hsi, hmin, hfc, hst, goInt, spl]
end heavy
end Go.Vg
