/- Walks, printed by program. -/
import Derived.Test.YtppgppnkhpjlpaaRb
namespace Go.Proofs.Ytppgppnkhpjlpaa
open Go.Vg Go.RowKit
set_option linter.unusedVariables false

open Go.Vm
set_option maxHeartbeats 1000000 in
theorem r01_bits {w : World} {Dx : Nat → TypeId → Prop} {vx : Value} {x : List Nat} (hx : Sg (gN .u32) Dx w vx x) (lmx : Lm x) (lnx : x.length ≤ 1099511627776) :
    Calls Try.prog 60 #[vx] w fun e w' => ∃ v, e = .returned v ∧ (∃ t : Nat, v = .int .i64 ((t : Nat) : Int) ∧ val x < 2 ^ t ∧ t ≤ 32 * x.length) ∧ Ext w w' := by
  have hE : Below w.heap.size w w := Below.refl _ _
  refine calls_of (n := 27) (rs := [.tmp 2]) Try.func60 rfl rfl rfl (Nat.le_of_ble_eq_true rfl) ?_
  refine wset fun F0 hF0 => ?_
  refine wseq ?_
  refine wregion ?_
  refine RL.val rfl rfl (by decide) (r_assign_as (v := (.int .i64 (0))) rfl) ?_
  refine RL.nil ?_
  refine wseq ?_
  refine wregion ?_
  refine RL.val rfl rfl (by decide) (r_move_as (v := vx) (hF0 0)) ?_
  refine RL.call rfl rfl (by decide) (r_call (vl := [vx]) ent58 rfl) (r01_trim hx (by assumption) (by first | omega | simp)) ?_
  rintro vr3 w1 ⟨hr4, he2⟩
  have he2z := he2.size
  replace hx := hx.tr (Sm.ext he2)
  replace hE := Below.ext hE (by omega) he2
  have hlt5 : (digs (val x)).length ≤ x.length := len_le_of (by assumption)
  refine RL.val rfl rfl (by decide) (r_assign_as (v := vr3) rfl) ?_
  refine RL.nil ?_
  refine wseq ?_
  refine wseq ?_
  refine wregion ?_
  refine RL.val rfl rfl (by decide) (r_move_as (v := vr3) rfl) ?_
  obtain ⟨A6, c7, hv8, hc9, hc10⟩ := hr4.len
  refine RL.val rfl rfl (by decide) (r_len Try.underlying38 hv8) ?_
  refine RL.val rfl rfl (by decide) (r_eql (k := .i64) (a := (((digs (val x)).length : Nat) : Int)) (b := 0) rfl rfl) ?_
  refine RL.nil ?_
  refine wcond (b := decide ((((digs (val x)).length : Nat) : Int) = 0)) rfl (fun hb11 => ?_) (fun hb11 => ?_)
  · have hb11p := hb11
    replace hb11p := of_decide_eq_true hb11p
    refine wseq ?_
    refine wregion ?_
    refine RL.val rfl rfl (by decide) (r_assign_as (v := (.int .i64 (0))) rfl) ?_
    refine RL.nil ?_
    refine wret ?_
    refine ⟨[(.int .i64 (0))], ⟨rfl, trivial⟩, ?_⟩
    have h0 : val x = 0 := len_zero.1 (by unfold len; omega)
    exact ⟨⟨0, rfl, by omega, by omega⟩, hE⟩
  · have hb11p := hb11
    replace hb11p := of_decide_eq_false hb11p
    refine wskip ?_
    refine wseq ?_
    refine wregion ?_
    refine RL.val rfl rfl (by decide) (r_move_as (v := vr3) rfl) ?_
    refine RL.val rfl rfl (by decide) (r_len Try.underlying38 hv8) ?_
    refine RL.val rfl rfl (by decide) (r_sub (k := .i64) (a := (((digs (val x)).length : Nat) : Int)) (b := 1) (c := (((digs (val x)).length : Nat) : Int) - 1) rfl rfl (wi64 (by omega))) ?_
    refine RL.val rfl rfl (by decide) (r_mul (k := .i64) (a := 32) (b := (((digs (val x)).length : Nat) : Int) - 1) (c := 32 * ((((digs (val x)).length : Nat) : Int) - 1)) rfl rfl (wi64 (by omega))) ?_
    refine RL.val rfl rfl (by decide) (r_assign_as (v := (.int .i64 (32 * ((((digs (val x)).length : Nat) : Int) - 1)))) rfl) ?_
    refine RL.nil ?_
    refine wseq ?_
    refine wseq ?_
    have htop := (digs_lm (val x)).at (k := (digs (val x)).length - 1) (by omega)
    refine wregion ?_
    refine RL.val rfl rfl (by decide) (r_move_as (v := vr3) rfl) ?_
    refine RL.val rfl rfl (by decide) (r_move_as (v := vr3) rfl) ?_
    refine RL.val rfl rfl (by decide) (r_len Try.underlying38 hv8) ?_
    refine RL.val rfl rfl (by decide) (r_sub (k := .i64) (a := (((digs (val x)).length : Nat) : Int)) (b := 1) (c := (((digs (val x)).length : Nat) : Int) - 1) rfl rfl (wi64 (by omega))) ?_
    obtain ⟨b12, o13, c14, hv15, hc16⟩ := hr4.ix (i := (((digs (val x)).length : Nat) : Int) - 1) ((digs (val x)).length - 1) (by omega) (by omega)
    refine RL.val rfl rfl (by decide) (r_indexAddr (i := (((digs (val x)).length : Nat) : Int) - 1) Try.underlying38 ty52 hv15 rfl (by omega) (by omega)) ?_
    refine RL.val rfl rfl (by decide) (r_load (v := (.int .u32 ((((digs (val x)).getD ((digs (val x)).length - 1) default : Nat) : Int)))) Try.underlying52 ag52 rfl hc16) ?_
    refine RL.val rfl rfl (by decide) (r_assign_as (v := (.int .u32 ((((digs (val x)).getD ((digs (val x)).length - 1) default : Nat) : Int)))) rfl) ?_
    refine RL.nil ?_
    refine wblock ?_
    refine wset fun F17 hF18 => ?_
    refine wloop (σ := Nat) (fun (s : Nat) fl wl => Off [3, 4, 20, 21, 22, 23, 24, 25] F17 fl ∧ fl 3 = (.int .i64 (((32 * ((digs (val x)).length - 1) + s : Nat) : Int))) ∧ fl 4 = (.int .u32 ((((digs (val x)).getD ((digs (val x)).length - 1) default / 2 ^ s : Nat) : Int))) ∧ (s ≤ 32) ∧ (Sg (gN .u32) (fun b T => w.heap.size ≤ b ∧ T = 52) wl vr3 (digs (val x))) ∧ (Below w.heap.size w wl) ∧ (w1.heap.size ≤ wl.heap.size)) (fun (s : Nat) => 32 - s) (0) ?_ ?_
    · exact ⟨Off.refl _ _, (hF18 3).trans ((int_eq (by omega))), (hF18 4).trans ((int_eq (by rw [Nat.pow_zero, Nat.div_one]))), Nat.zero_le _, hr4, hE, Nat.le_refl _⟩
    · clear hx hE hr4
      rintro s f20 w21 ⟨hoff22, hs23, hs24, hs, hr4, hE, hz19⟩
      refine wseq ?_
      refine wseq ?_
      refine wregion ?_
      refine RL.val rfl rfl (by decide) (r_move_as (v := (.int .u32 ((((digs (val x)).getD ((digs (val x)).length - 1) default / 2 ^ s : Nat) : Int)))) hs24) ?_
      refine RL.val rfl rfl (by decide) (r_gtr (k := .u32) (a := (((digs (val x)).getD ((digs (val x)).length - 1) default / 2 ^ s : Nat) : Int)) (b := 0) rfl rfl) ?_
      refine RL.nil ?_
      refine wcond (b := decide (0 < (((digs (val x)).getD ((digs (val x)).length - 1) default / 2 ^ s : Nat) : Int))) rfl (fun hb25 => ?_) (fun hb25 => ?_)
      · have hb25p := hb25
        replace hb25p := of_decide_eq_true hb25p
        have hpos := hb25p
        refine wskip ?_
        refine wseq ?_
        refine wblock ?_
        have hs32 : s < 32 := by
          rcases Nat.lt_or_ge s 32 with h | h
          · exact h
          · exfalso; rw [show s = 32 by omega, Nat.div_eq_of_lt (show (digs (val x)).getD ((digs (val x)).length - 1) default < 2 ^ 32 from htop)] at hpos; omega
        refine wregion ?_
        refine RL.val rfl rfl (by decide) (r_move_as (v := (.int .i64 (((32 * ((digs (val x)).length - 1) + s : Nat) : Int)))) hs23) ?_
        refine RL.val rfl rfl (by decide) (r_add (k := .i64) (a := ((32 * ((digs (val x)).length - 1) + s : Nat) : Int)) (b := 1) (c := ((32 * ((digs (val x)).length - 1) + s : Nat) : Int) + 1) rfl rfl (wi64 (by omega))) ?_
        refine RL.val rfl rfl (by decide) (r_assign_as (v := (.int .i64 (((32 * ((digs (val x)).length - 1) + s : Nat) : Int) + 1))) rfl) ?_
        refine RL.nil ?_
        refine wregion ?_
        refine RL.val rfl rfl (by decide) (r_move_as (v := (.int .u32 ((((digs (val x)).getD ((digs (val x)).length - 1) default / 2 ^ s : Nat) : Int)))) hs24) ?_
        refine RL.val rfl rfl (by decide) (r_shr (k := .u32) (a := (((digs (val x)).getD ((digs (val x)).length - 1) default / 2 ^ s : Nat) : Int)) (b := 1) (c := (((digs (val x)).getD ((digs (val x)).length - 1) default / 2 ^ s / 2 : Nat) : Int)) rfl rfl (by decide) (shr1u32 _)) ?_
        refine RL.val rfl rfl (by decide) (r_assign_as (v := (.int .u32 ((((digs (val x)).getD ((digs (val x)).length - 1) default / 2 ^ s / 2 : Nat) : Int)))) rfl) ?_
        refine RL.nil ?_
        refine ⟨(s + 1), ⟨?_, ?_, ?_, ?_, ?_, ?_, ?_⟩, ?_⟩
        · exact (by repeat (first | exact hoff22 | refine Off.st ?_ (by decide) _))
        · first | rfl | exact int_eq (by omega) | exact bool_eq (by simp)
        · exact int_eq (by rw [Nat.pow_succ, ← Nat.div_div_eq_div_mul])
        · omega
        · exact hr4
        · exact hE
        · omega
        · (try dsimp only)
          omega
      · have hb25p := hb25
        replace hb25p := of_decide_eq_false hb25p
        have hzero : (digs (val x)).getD ((digs (val x)).length - 1) default / 2 ^ s = 0 := by
          rcases Nat.eq_zero_or_pos ((digs (val x)).getD ((digs (val x)).length - 1) default / 2 ^ s) with h | h
          · exact h
          · exact absurd (Int.natCast_pos.2 h) hb25p
        refine wexit ?_
        refine wseq ?_
        refine wregion ?_
        refine RL.val rfl rfl (by decide) (r_move_as (v := (.int .i64 (((32 * ((digs (val x)).length - 1) + s : Nat) : Int)))) hs23) ?_
        refine RL.val rfl rfl (by decide) (r_assign_as (v := (.int .i64 (((32 * ((digs (val x)).length - 1) + s : Nat) : Int)))) rfl) ?_
        refine RL.nil ?_
        refine wret ?_
        refine ⟨[(.int .i64 (((32 * ((digs (val x)).length - 1) + s : Nat) : Int)))], ⟨rfl, trivial⟩, ?_⟩
        have hlaw := bits_law (digs_lm (val x)) (by omega) hzero
        rw [val_digs] at hlaw
        exact ⟨⟨_, rfl, hlaw, by omega⟩, hE⟩

set_option maxHeartbeats 1000000 in
theorem r01_bit {w : World} {Dx : Nat → TypeId → Prop} {vx : Value} {x : List Nat} (hx : Sg (gN .u32) Dx w vx x) (lmx : Lm x) (lnx : x.length ≤ 1099511627776) {i : Nat} (hi : i ≤ 70368744177664) :
    Calls Try.prog 62 #[vx, (.int .i64 (((i : Nat) : Int)))] w fun e w' => ∃ v, e = .returned v ∧ v = .int .u32 ((val x / 2 ^ i % 2 : Nat) : Int) ∧ Ext w w' := by
  have hE : Below w.heap.size w w := Below.refl _ _
  refine calls_of (n := 20) (rs := [.tmp 4]) Try.func62 rfl rfl rfl (Nat.le_of_ble_eq_true rfl) ?_
  refine wset fun F0 hF0 => ?_
  refine wseq ?_
  refine wregion ?_
  refine RL.val rfl rfl (by decide) (r_assign_as (v := (.int .u32 (0))) rfl) ?_
  refine RL.nil ?_
  refine wseq ?_
  refine wseq ?_
  refine wregion ?_
  refine RL.val rfl rfl (by decide) (r_move_as (v := (.int .i64 (((i : Nat) : Int)))) (hF0 1)) ?_
  refine RL.val rfl rfl (by decide) (r_quo (k := .i64) (a := ((i : Nat) : Int)) (b := 32) (c := ((i / 32 : Nat) : Int)) rfl rfl (by decide) (quo32 (by omega))) ?_
  refine RL.val rfl rfl (by decide) (r_move_as (v := vx) (hF0 0)) ?_
  obtain ⟨A1, c2, hv3, hc4, hc5⟩ := hx.len
  refine RL.val rfl rfl (by decide) (r_len Try.underlying38 hv3) ?_
  refine RL.val rfl rfl (by decide) (r_geq (k := .i64) (a := ((i / 32 : Nat) : Int)) (b := ((x.length : Nat) : Int)) rfl rfl) ?_
  refine RL.nil ?_
  refine wcond (b := decide (((x.length : Nat) : Int) ≤ ((i / 32 : Nat) : Int))) rfl (fun hb6 => ?_) (fun hb6 => ?_)
  · have hb6p := hb6
    replace hb6p := of_decide_eq_true hb6p
    refine wseq ?_
    refine wregion ?_
    refine RL.val rfl rfl (by decide) (r_assign_as (v := (.int .u32 (0))) rfl) ?_
    refine RL.nil ?_
    refine wret ?_
    refine ⟨[(.int .u32 (0))], ⟨rfl, trivial⟩, ?_⟩
    exact ⟨int_eq (by rw [← bit_law lmx, dig_f (by omega), Nat.zero_div]; rfl), hE⟩
  · have hb6p := hb6
    replace hb6p := of_decide_eq_false hb6p
    refine wskip ?_
    refine wseq ?_
    have hxi := lmx.at (k := i / 32) (by omega)
    refine wregion ?_
    refine RL.val rfl rfl (by decide) (r_move_as (v := vx) (hF0 0)) ?_
    refine RL.val rfl rfl (by decide) (r_move_as (v := (.int .i64 (((i : Nat) : Int)))) (hF0 1)) ?_
    refine RL.val rfl rfl (by decide) (r_quo (k := .i64) (a := ((i : Nat) : Int)) (b := 32) (c := ((i / 32 : Nat) : Int)) rfl rfl (by decide) (quo32 (by omega))) ?_
    obtain ⟨b7, o8, c9, hv10, hc11⟩ := hx.ix (i := ((i / 32 : Nat) : Int)) (i / 32) (by omega) (by omega)
    refine RL.val rfl rfl (by decide) (r_indexAddr (i := ((i / 32 : Nat) : Int)) Try.underlying38 ty52 hv10 rfl (by omega) (by omega)) ?_
    refine RL.val rfl rfl (by decide) (r_load (v := (.int .u32 (((x.getD (i / 32) default : Nat) : Int)))) Try.underlying52 ag52 rfl hc11) ?_
    refine RL.val rfl rfl (by decide) (r_move_as (v := (.int .i64 (((i : Nat) : Int)))) (hF0 1)) ?_
    refine RL.val rfl rfl (by decide) (r_rem (k := .i64) (a := ((i : Nat) : Int)) (b := 32) (c := ((i % 32 : Nat) : Int)) rfl rfl (by decide) (rem32 _)) ?_
    refine RL.val rfl rfl (by decide) (r_conv (k := .u64) (a := ((i % 32 : Nat) : Int)) (c := ((i % 32 : Nat) : Int)) Try.underlying3 Try.underlying77 rfl (wu64 (by omega))) ?_
    refine RL.val rfl rfl (by decide) (r_shr (k := .u32) (a := ((x.getD (i / 32) default : Nat) : Int)) (b := ((i % 32 : Nat) : Int)) (c := ((x.getD (i / 32) default / 2 ^ (i % 32) : Nat) : Int)) rfl rfl (by omega) (shrN32 (by omega))) ?_
    refine RL.val rfl rfl (by decide) (r_and (k := .u32) (a := ((x.getD (i / 32) default / 2 ^ (i % 32) : Nat) : Int)) (b := 1) (c := ((x.getD (i / 32) default / 2 ^ (i % 32) % 2 : Nat) : Int)) rfl rfl (and1 (Nat.lt_of_le_of_lt (Nat.div_le_self _ _) hxi))) ?_
    refine RL.val rfl rfl (by decide) (r_assign_as (v := (.int .u32 (((x.getD (i / 32) default / 2 ^ (i % 32) % 2 : Nat) : Int)))) rfl) ?_
    refine RL.nil ?_
    refine wret ?_
    refine ⟨[(.int .u32 (((x.getD (i / 32) default / 2 ^ (i % 32) % 2 : Nat) : Int)))], ⟨rfl, trivial⟩, ?_⟩
    exact ⟨int_eq (by rw [← bit_law lmx, dig_t (by omega)]), hE⟩

end Go.Proofs.Ytppgppnkhpjlpaa
