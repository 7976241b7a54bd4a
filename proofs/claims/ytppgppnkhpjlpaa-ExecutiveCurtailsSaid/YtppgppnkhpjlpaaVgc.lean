/-
  WHAT ONE OPERATION DOES, kind by kind: those that leave memory as it is.
-/
import Derived.Test.YtppgppnkhpjlpaaVgb
import Derived.WalkSpells
namespace Go.Vg
open Go.RowKit

section
variable {P : Program} {f : Nat → Value} {w : World} {dst : Option Tmp} {ty : TypeId} {pos : String} {aft : Array Edge} {g : Option (Nat × Bool)} {x y z : Operand} {t t' : TypeId} {k : IntKind} {a b c : Int}

theorem r_move : (execOp (ev f) ⟨dst, .move x, ty, pos, aft, g⟩).run P w = .ok (.value (ev f x)) w := rfl
theorem r_assign : (execOp (ev f) ⟨dst, .assign x, ty, pos, aft, g⟩).run P w = .ok (.value (ev f x)) w := rfl
theorem r_move_as {v : Value} (h : ev f x = v) : (execOp (ev f) ⟨dst, .move x, ty, pos, aft, g⟩).run P w = .ok (.value v) w := by rw [← h]; rfl
theorem r_assign_as {v : Value} (h : ev f x = v) : (execOp (ev f) ⟨dst, .assign x, ty, pos, aft, g⟩).run P w = .ok (.value v) w := by rw [← h]; rfl
theorem r_pick_t {v : Value} (hc : ev f x = .bool true) (h : ev f y = v) : (execOp (ev f) ⟨dst, .pick x y z, ty, pos, aft, g⟩).run P w = .ok (.value v) w := by
  simp [execOp, hc, h, asBool]
theorem r_pick_f {v : Value} (hc : ev f x = .bool false) (h : ev f z = v) : (execOp (ev f) ⟨dst, .pick x y z, ty, pos, aft, g⟩).run P w = .ok (.value v) w := by
  simp [execOp, hc, h, asBool]

theorem r_add (hx : ev f x = .int k a) (hy : ev f y = .int k b) (hw : k.wrap (a + b) = c) : (execOp (ev f) ⟨dst, .binOp .add t x y t', ty, pos, aft, g⟩).run P w = .ok (.value (.int k c)) w := by
  simp [execOp, hx, hy, eqGuard, binOp, Op.intArith, hw]
theorem r_sub (hx : ev f x = .int k a) (hy : ev f y = .int k b) (hw : k.wrap (a - b) = c) : (execOp (ev f) ⟨dst, .binOp .sub t x y t', ty, pos, aft, g⟩).run P w = .ok (.value (.int k c)) w := by
  simp [execOp, hx, hy, eqGuard, binOp, Op.intArith, hw]
theorem r_mul (hx : ev f x = .int k a) (hy : ev f y = .int k b) (hw : k.wrap (a * b) = c) : (execOp (ev f) ⟨dst, .binOp .mul t x y t', ty, pos, aft, g⟩).run P w = .ok (.value (.int k c)) w := by
  simp [execOp, hx, hy, eqGuard, binOp, Op.intArith, hw]
theorem r_quo (hx : ev f x = .int k a) (hy : ev f y = .int k b) (hb : b ≠ 0) (hw : k.wrap (a.tdiv b) = c) : (execOp (ev f) ⟨dst, .binOp .quo t x y t', ty, pos, aft, g⟩).run P w = .ok (.value (.int k c)) w := by
  simp [execOp, hx, hy, eqGuard, binOp, Op.intDiv, hb, hw]
theorem r_rem (hx : ev f x = .int k a) (hy : ev f y = .int k b) (hb : b ≠ 0) (hw : a.tmod b = c) : (execOp (ev f) ⟨dst, .binOp .rem t x y t', ty, pos, aft, g⟩).run P w = .ok (.value (.int k c)) w := by
  simp [execOp, hx, hy, eqGuard, binOp, Op.intDiv, hb, hw]
theorem r_shl {kk : IntKind} (hx : ev f x = .int k a) (hy : ev f y = .int kk b) (hb : 0 ≤ b) (hw : k.wrap (a * 2 ^ (min b.toNat k.bits)) = c) : (execOp (ev f) ⟨dst, .binOp .shl t x y t', ty, pos, aft, g⟩).run P w = .ok (.value (.int k c)) w := by
  simp [execOp, hx, hy, eqGuard, binOp, Op.shift, Int.not_lt.2 hb, hw]
theorem r_shr {kk : IntKind} (hx : ev f x = .int k a) (hy : ev f y = .int kk b) (hb : 0 ≤ b) (hw : a.fdiv (2 ^ (min b.toNat k.bits)) = c) : (execOp (ev f) ⟨dst, .binOp .shr t x y t', ty, pos, aft, g⟩).run P w = .ok (.value (.int k c)) w := by
  simp [execOp, hx, hy, eqGuard, binOp, Op.shift, Int.not_lt.2 hb, hw]
theorem r_or (hx : ev f x = .int k a) (hy : ev f y = .int k b) (hw : k.wrap ((BitVec.ofInt k.bits a ||| BitVec.ofInt k.bits b).toNat : Int) = c) : (execOp (ev f) ⟨dst, .binOp .or t x y t', ty, pos, aft, g⟩).run P w = .ok (.value (.int k c)) w := by
  simp only [execOp, hx, hy, eqGuard, binOp]
  simp [Op.intBits]
  simpa using hw
theorem r_and (hx : ev f x = .int k a) (hy : ev f y = .int k b) (hw : k.wrap ((BitVec.ofInt k.bits a &&& BitVec.ofInt k.bits b).toNat : Int) = c) : (execOp (ev f) ⟨dst, .binOp .and t x y t', ty, pos, aft, g⟩).run P w = .ok (.value (.int k c)) w := by
  simp only [execOp, hx, hy, eqGuard, binOp]
  simp [Op.intBits]
  simpa using hw

theorem r_lss (hx : ev f x = .int k a) (hy : ev f y = .int k b) : (execOp (ev f) ⟨dst, .binOp .lss t x y t', ty, pos, aft, g⟩).run P w = .ok (.value (.bool (decide (a < b)))) w := by
  simp [execOp, hx, hy, eqGuard, binOp, Op.intCmp]
theorem r_leq (hx : ev f x = .int k a) (hy : ev f y = .int k b) : (execOp (ev f) ⟨dst, .binOp .leq t x y t', ty, pos, aft, g⟩).run P w = .ok (.value (.bool (decide (a ≤ b)))) w := by
  simp [execOp, hx, hy, eqGuard, binOp, Op.intCmp]
theorem r_gtr (hx : ev f x = .int k a) (hy : ev f y = .int k b) : (execOp (ev f) ⟨dst, .binOp .gtr t x y t', ty, pos, aft, g⟩).run P w = .ok (.value (.bool (decide (b < a)))) w := by
  simp [execOp, hx, hy, eqGuard, binOp, Op.intCmp]
theorem r_geq (hx : ev f x = .int k a) (hy : ev f y = .int k b) : (execOp (ev f) ⟨dst, .binOp .geq t x y t', ty, pos, aft, g⟩).run P w = .ok (.value (.bool (decide (b ≤ a)))) w := by
  simp [execOp, hx, hy, eqGuard, binOp, Op.intCmp]
theorem r_eql (hx : ev f x = .int k a) (hy : ev f y = .int k b) : (execOp (ev f) ⟨dst, .binOp .eql t x y t', ty, pos, aft, g⟩).run P w = .ok (.value (.bool (decide (a = b)))) w := by
  simp [execOp, hx, hy, eqGuard, binOp, Op.intCmp]
  rfl
theorem r_neq (hx : ev f x = .int k a) (hy : ev f y = .int k b) : (execOp (ev f) ⟨dst, .binOp .neq t x y t', ty, pos, aft, g⟩).run P w = .ok (.value (.bool (decide (a ≠ b)))) w := by
  simp [execOp, hx, hy, eqGuard, binOp, Op.intCmp]
  rfl
theorem run_equalIn_bool (d : Nat) {p q : Bool} (ht : P.underlying t = some .bool) : (Op.equalIn (d + 1) t (.bool p) (.bool q)).run P w = .ok (p == q) w := by
  simp [Op.equalIn, run_underlying ht]
theorem r_eqlb {p q : Bool} (ht : P.underlying t = some .bool) (hx : ev f x = .bool p) (hy : ev f y = .bool q) : (execOp (ev f) ⟨dst, .binOp .eql t x y t', ty, pos, aft, g⟩).run P w = .ok (.value (.bool (p == q))) w := by
  have h := run_equalIn_bool (P := P) (w := w) (t := t) 9999 (p := p) (q := q) ht
  simp only [execOp, hx, hy, eqGuard, binOp]
  simp [Op.equal, Op.maxDepth, h]
theorem r_neqb {p q : Bool} (ht : P.underlying t = some .bool) (hx : ev f x = .bool p) (hy : ev f y = .bool q) : (execOp (ev f) ⟨dst, .binOp .neq t x y t', ty, pos, aft, g⟩).run P w = .ok (.value (.bool (p != q))) w := by
  have h := run_equalIn_bool (P := P) (w := w) (t := t) 9999 (p := p) (q := q) ht
  simp only [execOp, hx, hy, eqGuard, binOp]
  simp [Op.equal, Op.maxDepth, h]
  cases p <;> cases q <;> rfl
theorem r_not {p : Bool} (hx : ev f x = .bool p) : (execOp (ev f) ⟨dst, .unOp .not t x, ty, pos, aft, g⟩).run P w = .ok (.value (.bool (!p))) w := by
  simp [execOp, hx, Op.unary]
theorem r_neg (hx : ev f x = .int k a) (hw : k.wrap (0 - a) = c) : (execOp (ev f) ⟨dst, .unOp .neg t x, ty, pos, aft, g⟩).run P w = .ok (.value (.int k c)) w := by
  simp only [execOp, hx, Op.unary, Op.intArith, hw]
  rfl
theorem r_conv {k' : IntKind} {d : TypeDesc} (h1 : P.underlying t = some d) (h2 : P.underlying t' = some (.int k)) (hx : ev f x = .int k' a) (hw : k.wrap a = c) : (execOp (ev f) ⟨dst, .convert t t' x, ty, pos, aft, g⟩).run P w = .ok (.value (.int k c)) w := by
  simp only [execOp, hx, convert, Sem.run_bind, run_underlying h1, run_underlying h2, Result.andThen_ok]
  cases d <;> simp [Conv.intToInt, hw]
theorem r_extract {vs : Array Value} {i : Nat} {v : Value} (hx : ev f x = .tuple vs) (hv : vs[i]? = some v) : (execOp (ev f) ⟨dst, .extract x i, ty, pos, aft, g⟩).run P w = .ok (.value v) w := by
  simp [execOp, hx, Instr.extract, hv]

theorem r_len {e : TypeId} {A : Option Addr} {n c : Nat} (ht : P.underlying t = some (.slice e)) (hx : ev f x = .slice A n c) :
    (execOp (ev f) ⟨dst, .call ⟨.builtin .len, #[x], #[t]⟩, ty, pos, aft, g⟩).run P w = .ok (.value (.int .i64 n)) w := by
  simp [execOp, resolve, invoke, builtin, Builtin.len_, run_underlying ht, hx, goInt]
theorem r_max2 (hx : ev f x = .int k a) (hy : ev f y = .int k b) : (execOp (ev f) ⟨dst, .call ⟨.builtin .max, #[x, y], #[t, t']⟩, ty, pos, aft, g⟩).run P w = .ok (.value (.int k (if b > a then b else a))) w := by
  simp [execOp, resolve, invoke, builtin, Builtin.max_, hx, hy, Builtin.max2]
theorem r_min2 (hx : ev f x = .int k a) (hy : ev f y = .int k b) : (execOp (ev f) ⟨dst, .call ⟨.builtin .min, #[x, y], #[t, t']⟩, ty, pos, aft, g⟩).run P w = .ok (.value (.int k (if b < a then b else a))) w := by
  simp [execOp, resolve, invoke, builtin, Builtin.min_, hx, hy, Builtin.min2]

/-- a call of a named function -/
def Ent (P : Program) (k : FuncId) : Prop := ∀ args w, (callFunc k args).run P w = .ok (.enter k args) w
theorem r_call {kf : FuncId} {al : List Operand} {vl : List Value} {tys : Array TypeId} (he : Ent P kf) (ha : al.map (ev f) = vl) :
    (execOp (ev f) ⟨dst, .call ⟨.value (.func kf), al.toArray, tys⟩, ty, pos, aft, g⟩).run P w = .ok (.enter kf vl.toArray) w := by
  subst ha
  unfold Ent at he
  simp [execOp, resolve, Deferred.ofValue, ev, invoke, he]
/-- a call of a function value -/
theorem r_callv {kf : FuncId} {al : List Operand} {vl cl : List Value} {tys : Array TypeId} (hx : ev f x = .func (.func kf) #[] cl.toArray) (he : Ent P kf) (ha : al.map (ev f) = vl) :
    (execOp (ev f) ⟨dst, .call ⟨.value x, al.toArray, tys⟩, ty, pos, aft, g⟩).run P w = .ok (.enter kf (vl ++ cl).toArray) w := by
  subst ha
  unfold Ent at he
  simp [execOp, resolve, hx, Deferred.ofValue, invoke, he]
theorem mpn {α β : Type} {f : α → β} : ([] : List α).map f = [] := rfl
theorem mpc {α β : Type} {f : α → β} {a : α} {b : β} {l : List α} {l' : List β} (h : f a = b) (hl : l.map f = l') : (a :: l).map f = b :: l' := by rw [List.map_cons, h, hl]
theorem r_makeFunc {fn : Fn} {cl : List Operand} {vl : List Value} (hc : cl.map (ev f) = vl) : (execOp (ev f) ⟨dst, .makeFunc fn #[] cl.toArray, ty, pos, aft, g⟩).run P w = .ok (.value (.func fn #[] vl.toArray)) w := by
  subst hc
  simp [execOp, Instr.makeFunc]
end

/-! ### a number that fits is itself -/
theorem wi64 {z : Int} (h : -9223372036854775808 ≤ z ∧ z ≤ 9223372036854775807) : IntKind.i64.wrap z = z := by
  rw [IntKind.wrap_i64]; omega
theorem wu64 {z : Int} (h : 0 ≤ z ∧ z ≤ 18446744073709551615) : IntKind.u64.wrap z = z := by
  rw [IntKind.wrap_u64]; omega
theorem wu32 {z : Int} (h : 0 ≤ z ∧ z ≤ 4294967295) : IntKind.u32.wrap z = z := by
  rw [IntKind.wrap_u32]; omega
theorem wu64m (z : Int) : IntKind.u64.wrap z = z % 18446744073709551616 := by rw [IntKind.wrap_u64]
theorem wu32m (z : Int) : IntKind.u32.wrap z = z % 4294967296 := by rw [IntKind.wrap_u32]
end Go.Vg
