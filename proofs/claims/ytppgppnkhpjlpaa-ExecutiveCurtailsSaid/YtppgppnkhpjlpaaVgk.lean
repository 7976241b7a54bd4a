/-
  WORDS OF 64 AND 32 BITS as natural numbers.
-/
import Derived.Test.YtppgppnkhpjlpaaVgj
import Derived.Test.YtppgppnkhpjlpaaMnat
namespace Go.Vg
open Go Go.RowKit Go.Vm
theorem cu32 (x : Nat) : IntKind.u32.wrap (x : Int) = ((x % 4294967296 : Nat) : Int) := by rw [wu32m]; omega
theorem cu64 {x : Nat} (h : x < 18446744073709551616) : IntKind.u64.wrap (x : Int) = ((x : Nat) : Int) := wu64 (by omega)
theorem shr32 (x : Nat) : ((x : Nat) : Int).fdiv (2 ^ (min (32 : Int).toNat IntKind.u64.bits)) = ((x / 4294967296 : Nat) : Int) := by
  rw [Int.fdiv_eq_ediv_of_nonneg _ (by decide)]
  show (x : Int) / (2 ^ 32 : Int) = _
  omega
theorem shl32 {x : Nat} (h : x < 4294967296) : IntKind.u64.wrap ((x : Int) * 2 ^ (min (32 : Int).toNat IntKind.u64.bits)) = ((x * 4294967296 : Nat) : Int) := by
  show IntKind.u64.wrap ((x : Int) * (2 ^ 32 : Int)) = _
  rw [wu64 (by omega)]
  omega
theorem or32 {x y : Nat} (hx : x < 4294967296) (hy : y < 4294967296) : IntKind.u64.wrap ((BitVec.ofInt IntKind.u64.bits ((x * 4294967296 : Nat) : Int) ||| BitVec.ofInt IntKind.u64.bits ((y : Nat) : Int)).toNat : Int) = ((x * 4294967296 + y : Nat) : Int) := by
  show IntKind.u64.wrap ((BitVec.ofInt 64 ((x * 4294967296 : Nat) : Int) ||| BitVec.ofInt 64 ((y : Nat) : Int)).toNat : Int) = _
  rw [BitVec.ofInt_natCast, BitVec.ofInt_natCast, BitVec.toNat_or, BitVec.toNat_ofNat, BitVec.toNat_ofNat, Nat.mod_eq_of_lt (by omega), Nat.mod_eq_of_lt (by omega)]
  have h := Nat.two_pow_add_eq_or_of_lt (i := 32) (b := y) (by omega) x
  rw [Nat.mul_comm (2 ^ 32) x] at h
  rw [show x * 4294967296 = x * 2 ^ 32 from rfl, ← h, wu64 (by omega)]
end Go.Vg
namespace Go.Vg
open Go Go.RowKit Go.Vm
theorem shrN32 {x s : Nat} (hs : s < 32) : ((x : Nat) : Int).fdiv (2 ^ (min ((s : Nat) : Int).toNat IntKind.u32.bits)) = ((x / 2 ^ s : Nat) : Int) := by
  rw [Int.toNat_natCast, show min s IntKind.u32.bits = s from Nat.min_eq_left (Nat.le_of_lt hs), Int.fdiv_eq_ediv_of_nonneg _ (Int.le_of_lt (Int.pow_pos (by decide)))]
  simp
theorem shr1u32 (x : Nat) : ((x : Nat) : Int).fdiv (2 ^ (min (1 : Int).toNat IntKind.u32.bits)) = ((x / 2 : Nat) : Int) := by
  have := shrN32 (x := x) (s := 1) (by decide)
  simpa using this
theorem shl1 {s : Nat} (hs : s < 32) : IntKind.u32.wrap ((1 : Int) * 2 ^ (min ((s : Nat) : Int).toNat IntKind.u32.bits)) = ((2 ^ s : Nat) : Int) := by
  rw [Int.toNat_natCast, show min s IntKind.u32.bits = s from Nat.min_eq_left (Nat.le_of_lt hs), Int.one_mul]
  have h : 2 ^ s < 2 ^ 32 := Nat.pow_lt_pow_right (by decide) hs
  rw [show ((2 : Int) ^ s) = ((2 ^ s : Nat) : Int) by simp]
  generalize 2 ^ s = p at *
  exact wu32 (by omega)
theorem orN {a b : Nat} (ha : a < 4294967296) (hb : b < 4294967296) : IntKind.u32.wrap ((BitVec.ofInt IntKind.u32.bits ((a : Nat) : Int) ||| BitVec.ofInt IntKind.u32.bits ((b : Nat) : Int)).toNat : Int) = ((a ||| b : Nat) : Int) := by
  show IntKind.u32.wrap ((BitVec.ofInt 32 ((a : Nat) : Int) ||| BitVec.ofInt 32 ((b : Nat) : Int)).toNat : Int) = _
  rw [BitVec.ofInt_natCast, BitVec.ofInt_natCast, BitVec.toNat_or, BitVec.toNat_ofNat, BitVec.toNat_ofNat, Nat.mod_eq_of_lt (by omega), Nat.mod_eq_of_lt (by omega)]
  have := Nat.or_lt_two_pow (n := 32) ha hb
  rw [wu32 (by omega)]
theorem and1 {a : Nat} (ha : a < 4294967296) : IntKind.u32.wrap ((BitVec.ofInt IntKind.u32.bits ((a : Nat) : Int) &&& BitVec.ofInt IntKind.u32.bits (1 : Int)).toNat : Int) = ((a % 2 : Nat) : Int) := by
  show IntKind.u32.wrap ((BitVec.ofInt 32 ((a : Nat) : Int) &&& BitVec.ofInt 32 ((1 : Nat) : Int)).toNat : Int) = _
  rw [BitVec.ofInt_natCast, BitVec.ofInt_natCast, BitVec.toNat_and, BitVec.toNat_ofNat, BitVec.toNat_ofNat, Nat.mod_eq_of_lt (by omega), Nat.mod_eq_of_lt (by omega), Nat.and_one_is_mod, wu32 (by omega)]
theorem quo32 {i : Nat} (h : i ≤ 4611686018427387904) : IntKind.i64.wrap (((i : Nat) : Int).tdiv 32) = ((i / 32 : Nat) : Int) := by
  rw [Int.tdiv_eq_ediv_of_nonneg (by omega), wi64 (by omega)]; omega
theorem rem32 (i : Nat) : ((i : Nat) : Int).tmod 32 = ((i % 32 : Nat) : Int) := by
  rw [Int.tmod_eq_emod_of_nonneg (by omega)]; omega
theorem quoN {a b : Nat} (h : a < 18446744073709551616) : IntKind.u64.wrap (((a : Nat) : Int).tdiv ((b : Nat) : Int)) = ((a / b : Nat) : Int) := by
  rw [Int.tdiv_eq_ediv_of_nonneg (by omega), ← Int.natCast_ediv]
  have := Nat.div_le_self a b
  generalize a / b = q at *
  exact wu64 (by omega)
theorem remN (a b : Nat) : ((a : Nat) : Int).tmod ((b : Nat) : Int) = ((a % b : Nat) : Int) := by
  rw [Int.tmod_eq_emod_of_nonneg (by omega), ← Int.natCast_emod]
end Go.Vg
namespace Go.Vg
open Go Go.RowKit Go.Vm
/-- limbs lie apart from a block that holds none -/
def isU (u : Value) : Bool := match u with
  | .int .u32 _ => true
  | _ => false
def NoU (l : List Value) : Prop := ∀ u ∈ l, isU u = false
theorem nu_nil : NoU [] := fun _ h => by cases h
theorem nu_cons {u : Value} {l : List Value} (h : isU u = false) (t : NoU l) : NoU (u :: l) := fun z hz => by
  rcases List.mem_cons.1 hz with rfl | hz
  · exact h
  · exact t z hz
theorem Sc.nu {D : Nat → TypeId → Prop} {w : World} {size n : Nat} {v : Value} {l : List Value} (h : Sc D w size v n l) : isU v = false := by
  obtain ⟨A, c, rfl, _⟩ := h
  rfl
theorem Sg.nu {α : Type} {g : α → Value} {D : Nat → TypeId → Prop} {w : World} {v : Value} {xs : List α} (h : Sg g D w v xs) : isU v = false := Sc.nu h
theorem Ss.nu {α : Type} {c : α → List Value} {size : Nat} {D : Nat → TypeId → Prop} {w : World} {v : Value} {xs : List α} (h : Ss c size D w v xs) : isU v = false := Sc.nu h.2
theorem Sg.ap {D : Nat → TypeId → Prop} {w w' : World} {v : Value} {xs : List Nat} (h : Sg (gN .u32) D w v xs) {b : Nat} {T : TypeId} {l : List Value} (e : Exc b w w') (hb : Bk w b T l) (hl : NoU l) : Sg (gN .u32) D w' v xs := by
  obtain ⟨A, c, rfl, h1, h2, h3, h4⟩ := h
  refine ⟨A, c, rfl, h1, h2, h3, ?_⟩
  by_cases hne : xs = []
  · exact .inl (by rw [hne]; rfl)
  rcases h4 with h4 | ⟨b', o, rfl, hr⟩
  · exact .inl h4
  · right
    refine ⟨b', o, rfl, ?_⟩
    rcases hr with hr | ⟨cs, T', fz, hh, hd, hc⟩
    · exact .inl hr
    · right
      refine ⟨cs, T', fz, ?_, hd, hc⟩
      cases xs with
      | nil => exact absurd rfl hne
      | cons x xs =>
        have h0 := hc 0 (gN .u32 x) rfl
        by_cases hb' : b' = b
        · subst hb'
          rw [show w.heap[b']? = _ from hb] at hh
          injection hh with hh
          injection hh with hcs _ _
          subst hcs
          have hm : gN .u32 x ∈ l := by
            have : l[o + 0]? = some (gN .u32 x) := by simpa using h0
            exact List.mem_of_getElem? this
          have := hl _ hm
          cases this
        · exact (e.block b' (lt_of_heap hh) hb').trans hh
end Go.Vg
