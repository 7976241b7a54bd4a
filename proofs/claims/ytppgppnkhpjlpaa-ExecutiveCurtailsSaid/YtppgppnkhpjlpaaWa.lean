/- Walks, printed by program. -/
import Derived.Test.YtppgppnkhpjlpaaTy
namespace Go.Proofs.Ytppgppnkhpjlpaa
open Go.Vg Go.RowKit
set_option linter.unusedVariables false

def modF (v n : Int) : Int := (v % 18446744073709551616) % n
theorem modF_range (v n : Int) (h : 0 < n) : 0 ≤ modF v n ∧ modF v n < n := ⟨Int.emod_nonneg _ (by omega), Int.emod_lt_of_pos _ h⟩
def cmpI (x y : Int) : Int := if x < y then -1 else if y < x then 1 else 0
theorem tmod_emod {a b : Int} (ha : 0 ≤ a) : a.tmod b = a % b := Int.tmod_eq_emod_of_nonneg ha

set_option maxHeartbeats 1000000 in
theorem mod_spec {v0 n0 : Int} (w : World) (hn : 0 < n0) (hn2 : n0 ≤ 9223372036854775807) :
    Calls Try.prog 4 #[(.int .i64 (v0)), (.int .i64 (n0))] w fun e w' => ∃ v, e = .returned v ∧ v = .int .i64 (modF v0 n0) ∧ w = w' := by
  have hr := modF_range v0 n0 hn
  have hm := Int.emod_nonneg v0 (show (18446744073709551616 : Int) ≠ 0 by decide)
  refine calls_of (n := 11) (rs := [.tmp 4]) Try.func4 rfl rfl rfl (Nat.le_of_ble_eq_true rfl) ?_
  refine wset fun F0 hF0 => ?_
  refine wseq ?_
  refine wregion ?_
  refine RL.val rfl rfl (by decide) (r_assign_as (v := (.int .i64 (0))) rfl) ?_
  refine RL.nil ?_
  refine wseq ?_
  refine wregion ?_
  refine RL.val rfl rfl (by decide) (r_move_as (v := (.int .i64 (v0))) (hF0 0)) ?_
  refine RL.val rfl rfl (by decide) (r_conv (k := .u64) (a := v0) (c := v0 % 18446744073709551616) Try.underlying3 Try.underlying33 rfl (wu64m _)) ?_
  refine RL.val rfl rfl (by decide) (r_move_as (v := (.int .i64 (n0))) (hF0 1)) ?_
  refine RL.val rfl rfl (by decide) (r_conv (k := .u64) (a := n0) (c := n0) Try.underlying3 Try.underlying33 rfl (wu64 (by omega))) ?_
  refine RL.val rfl rfl (by decide) (r_rem (k := .u64) (a := v0 % 18446744073709551616) (b := n0) (c := modF v0 n0) rfl rfl (by omega) (tmod_emod hm)) ?_
  refine RL.val rfl rfl (by decide) (r_conv (k := .i64) (a := modF v0 n0) (c := modF v0 n0) Try.underlying33 Try.underlying3 rfl (wi64 (by omega))) ?_
  refine RL.val rfl rfl (by decide) (r_assign_as (v := (.int .i64 (modF v0 n0))) rfl) ?_
  refine RL.nil ?_
  refine wret ?_
  refine ⟨[(.int .i64 (modF v0 n0))], ⟨rfl, trivial⟩, ?_⟩
  exact ⟨rfl, rfl⟩

set_option maxHeartbeats 1000000 in
theorem isNaN_int {x : Int} (w : World) :
    Calls Try.prog 19 #[(.int .i64 (x))] w fun e w' => ∃ v, e = .returned v ∧ v = .bool false ∧ w = w' := by
  refine calls_of (n := 6) (rs := [.tmp 2]) Try.func19 rfl rfl rfl (Nat.le_of_ble_eq_true rfl) ?_
  refine wset fun F0 hF0 => ?_
  refine wseq ?_
  refine wregion ?_
  refine RL.val rfl rfl (by decide) (r_assign_as (v := (.bool (false))) rfl) ?_
  refine RL.nil ?_
  refine wseq ?_
  refine wregion ?_
  refine RL.val rfl rfl (by decide) (r_move_as (v := (.int .i64 (x))) (hF0 0)) ?_
  refine RL.val rfl rfl (by decide) (r_move_as (v := (.int .i64 (x))) (hF0 0)) ?_
  refine RL.val rfl rfl (by decide) (r_neq (k := .i64) (a := x) (b := x) rfl rfl) ?_
  refine RL.val rfl rfl (by decide) (r_assign_as (v := (.bool (decide (x ≠ x)))) rfl) ?_
  refine RL.nil ?_
  refine wret ?_
  refine ⟨[(.bool (decide (x ≠ x)))], ⟨rfl, trivial⟩, ?_⟩
  exact ⟨bool_eq (by simp), rfl⟩

set_option maxHeartbeats 1000000 in
theorem isNaN_int64 {x : Int} (w : World) :
    Calls Try.prog 36 #[(.int .i64 (x))] w fun e w' => ∃ v, e = .returned v ∧ v = .bool false ∧ w = w' := by
  refine calls_of (n := 6) (rs := [.tmp 2]) Try.func36 rfl rfl rfl (Nat.le_of_ble_eq_true rfl) ?_
  refine wset fun F0 hF0 => ?_
  refine wseq ?_
  refine wregion ?_
  refine RL.val rfl rfl (by decide) (r_assign_as (v := (.bool (false))) rfl) ?_
  refine RL.nil ?_
  refine wseq ?_
  refine wregion ?_
  refine RL.val rfl rfl (by decide) (r_move_as (v := (.int .i64 (x))) (hF0 0)) ?_
  refine RL.val rfl rfl (by decide) (r_move_as (v := (.int .i64 (x))) (hF0 0)) ?_
  refine RL.val rfl rfl (by decide) (r_neq (k := .i64) (a := x) (b := x) rfl rfl) ?_
  refine RL.val rfl rfl (by decide) (r_assign_as (v := (.bool (decide (x ≠ x)))) rfl) ?_
  refine RL.nil ?_
  refine wret ?_
  refine ⟨[(.bool (decide (x ≠ x)))], ⟨rfl, trivial⟩, ?_⟩
  exact ⟨bool_eq (by simp), rfl⟩

set_option maxHeartbeats 1000000 in
theorem cmp_int {x y : Int} (w : World) :
    Calls Try.prog 11 #[(.int .i64 (x)), (.int .i64 (y))] w fun e w' => ∃ v, e = .returned v ∧ v = .int .i64 (cmpI x y) ∧ w = w' := by
  refine calls_of (n := 20) (rs := [.tmp 4]) Try.func11 rfl rfl rfl (Nat.le_of_ble_eq_true rfl) ?_
  refine wset fun F0 hF0 => ?_
  refine wseq ?_
  refine wregion ?_
  refine RL.val rfl rfl (by decide) (r_assign_as (v := (.int .i64 (0))) rfl) ?_
  refine RL.nil ?_
  refine wseq ?_
  refine wregion ?_
  refine RL.val rfl rfl (by decide) (r_move_as (v := (.int .i64 (x))) (hF0 0)) ?_
  refine RL.call rfl rfl (by decide) (r_call (vl := [(.int .i64 (x))]) ent19 rfl) (isNaN_int _) ?_
  rintro _ _ ⟨rfl, rfl⟩
  refine RL.val rfl rfl (by decide) (r_assign_as (v := (.bool (false))) rfl) ?_
  refine RL.nil ?_
  refine wseq ?_
  refine wregion ?_
  refine RL.val rfl rfl (by decide) (r_move_as (v := (.int .i64 (y))) (hF0 1)) ?_
  refine RL.call rfl rfl (by decide) (r_call (vl := [(.int .i64 (y))]) ent19 rfl) (isNaN_int _) ?_
  rintro _ _ ⟨rfl, rfl⟩
  refine RL.val rfl rfl (by decide) (r_assign_as (v := (.bool (false))) rfl) ?_
  refine RL.nil ?_
  refine wseq ?_
  refine wseq ?_
  refine wregion ?_
  refine RL.val rfl rfl (by decide) (r_move_as (v := (.bool (false))) rfl) ?_
  refine RL.nil ?_
  refine wcond_f rfl ?_
  refine wskip ?_
  refine wseq ?_
  refine wseq ?_
  refine wregion ?_
  refine RL.val rfl rfl (by decide) (r_move_as (v := (.bool (false))) rfl) ?_
  refine RL.nil ?_
  refine wcond_f rfl ?_
  refine wskip ?_
  refine wseq ?_
  refine wseq ?_
  refine wregion ?_
  refine RL.val rfl rfl (by decide) (r_move_as (v := (.int .i64 (x))) (hF0 0)) ?_
  refine RL.val rfl rfl (by decide) (r_move_as (v := (.int .i64 (y))) (hF0 1)) ?_
  refine RL.val rfl rfl (by decide) (r_lss (k := .i64) (a := x) (b := y) rfl rfl) ?_
  refine RL.nil ?_
  refine wcond (b := decide (x < y)) rfl (fun hb3 => ?_) (fun hb3 => ?_)
  · have hb3p := hb3
    replace hb3p := of_decide_eq_true hb3p
    refine wseq ?_
    refine wregion ?_
    refine RL.val rfl rfl (by decide) (r_assign_as (v := (.int .i64 (-1))) rfl) ?_
    refine RL.nil ?_
    refine wret ?_
    refine ⟨[(.int .i64 (-1))], ⟨rfl, trivial⟩, ?_⟩
    exact ⟨int_eq (by unfold cmpI; (repeat split) <;> omega), rfl⟩
  · have hb3p := hb3
    replace hb3p := of_decide_eq_false hb3p
    refine wskip ?_
    refine wseq ?_
    refine wseq ?_
    refine wregion ?_
    refine RL.val rfl rfl (by decide) (r_move_as (v := (.int .i64 (x))) (hF0 0)) ?_
    refine RL.val rfl rfl (by decide) (r_move_as (v := (.int .i64 (y))) (hF0 1)) ?_
    refine RL.val rfl rfl (by decide) (r_gtr (k := .i64) (a := x) (b := y) rfl rfl) ?_
    refine RL.nil ?_
    refine wcond (b := decide (y < x)) rfl (fun hb4 => ?_) (fun hb4 => ?_)
    · have hb4p := hb4
      replace hb4p := of_decide_eq_true hb4p
      refine wseq ?_
      refine wregion ?_
      refine RL.val rfl rfl (by decide) (r_assign_as (v := (.int .i64 (1))) rfl) ?_
      refine RL.nil ?_
      refine wret ?_
      refine ⟨[(.int .i64 (1))], ⟨rfl, trivial⟩, ?_⟩
      exact ⟨int_eq (by unfold cmpI; (repeat split) <;> omega), rfl⟩
    · have hb4p := hb4
      replace hb4p := of_decide_eq_false hb4p
      refine wskip ?_
      refine wseq ?_
      refine wregion ?_
      refine RL.val rfl rfl (by decide) (r_assign_as (v := (.int .i64 (0))) rfl) ?_
      refine RL.nil ?_
      refine wret ?_
      refine ⟨[(.int .i64 (0))], ⟨rfl, trivial⟩, ?_⟩
      exact ⟨int_eq (by unfold cmpI; (repeat split) <;> omega), rfl⟩

set_option maxHeartbeats 1000000 in
theorem cmp_int64 {x y : Int} (w : World) :
    Calls Try.prog 23 #[(.int .i64 (x)), (.int .i64 (y))] w fun e w' => ∃ v, e = .returned v ∧ v = .int .i64 (cmpI x y) ∧ w = w' := by
  refine calls_of (n := 20) (rs := [.tmp 4]) Try.func23 rfl rfl rfl (Nat.le_of_ble_eq_true rfl) ?_
  refine wset fun F0 hF0 => ?_
  refine wseq ?_
  refine wregion ?_
  refine RL.val rfl rfl (by decide) (r_assign_as (v := (.int .i64 (0))) rfl) ?_
  refine RL.nil ?_
  refine wseq ?_
  refine wregion ?_
  refine RL.val rfl rfl (by decide) (r_move_as (v := (.int .i64 (x))) (hF0 0)) ?_
  refine RL.call rfl rfl (by decide) (r_call (vl := [(.int .i64 (x))]) ent36 rfl) (isNaN_int64 _) ?_
  rintro _ _ ⟨rfl, rfl⟩
  refine RL.val rfl rfl (by decide) (r_assign_as (v := (.bool (false))) rfl) ?_
  refine RL.nil ?_
  refine wseq ?_
  refine wregion ?_
  refine RL.val rfl rfl (by decide) (r_move_as (v := (.int .i64 (y))) (hF0 1)) ?_
  refine RL.call rfl rfl (by decide) (r_call (vl := [(.int .i64 (y))]) ent36 rfl) (isNaN_int64 _) ?_
  rintro _ _ ⟨rfl, rfl⟩
  refine RL.val rfl rfl (by decide) (r_assign_as (v := (.bool (false))) rfl) ?_
  refine RL.nil ?_
  refine wseq ?_
  refine wseq ?_
  refine wregion ?_
  refine RL.val rfl rfl (by decide) (r_move_as (v := (.bool (false))) rfl) ?_
  refine RL.nil ?_
  refine wcond_f rfl ?_
  refine wskip ?_
  refine wseq ?_
  refine wseq ?_
  refine wregion ?_
  refine RL.val rfl rfl (by decide) (r_move_as (v := (.bool (false))) rfl) ?_
  refine RL.nil ?_
  refine wcond_f rfl ?_
  refine wskip ?_
  refine wseq ?_
  refine wseq ?_
  refine wregion ?_
  refine RL.val rfl rfl (by decide) (r_move_as (v := (.int .i64 (x))) (hF0 0)) ?_
  refine RL.val rfl rfl (by decide) (r_move_as (v := (.int .i64 (y))) (hF0 1)) ?_
  refine RL.val rfl rfl (by decide) (r_lss (k := .i64) (a := x) (b := y) rfl rfl) ?_
  refine RL.nil ?_
  refine wcond (b := decide (x < y)) rfl (fun hb3 => ?_) (fun hb3 => ?_)
  · have hb3p := hb3
    replace hb3p := of_decide_eq_true hb3p
    refine wseq ?_
    refine wregion ?_
    refine RL.val rfl rfl (by decide) (r_assign_as (v := (.int .i64 (-1))) rfl) ?_
    refine RL.nil ?_
    refine wret ?_
    refine ⟨[(.int .i64 (-1))], ⟨rfl, trivial⟩, ?_⟩
    exact ⟨int_eq (by unfold cmpI; (repeat split) <;> omega), rfl⟩
  · have hb3p := hb3
    replace hb3p := of_decide_eq_false hb3p
    refine wskip ?_
    refine wseq ?_
    refine wseq ?_
    refine wregion ?_
    refine RL.val rfl rfl (by decide) (r_move_as (v := (.int .i64 (x))) (hF0 0)) ?_
    refine RL.val rfl rfl (by decide) (r_move_as (v := (.int .i64 (y))) (hF0 1)) ?_
    refine RL.val rfl rfl (by decide) (r_gtr (k := .i64) (a := x) (b := y) rfl rfl) ?_
    refine RL.nil ?_
    refine wcond (b := decide (y < x)) rfl (fun hb4 => ?_) (fun hb4 => ?_)
    · have hb4p := hb4
      replace hb4p := of_decide_eq_true hb4p
      refine wseq ?_
      refine wregion ?_
      refine RL.val rfl rfl (by decide) (r_assign_as (v := (.int .i64 (1))) rfl) ?_
      refine RL.nil ?_
      refine wret ?_
      refine ⟨[(.int .i64 (1))], ⟨rfl, trivial⟩, ?_⟩
      exact ⟨int_eq (by unfold cmpI; (repeat split) <;> omega), rfl⟩
    · have hb4p := hb4
      replace hb4p := of_decide_eq_false hb4p
      refine wskip ?_
      refine wseq ?_
      refine wregion ?_
      refine RL.val rfl rfl (by decide) (r_assign_as (v := (.int .i64 (0))) rfl) ?_
      refine RL.nil ?_
      refine wret ?_
      refine ⟨[(.int .i64 (0))], ⟨rfl, trivial⟩, ?_⟩
      exact ⟨int_eq (by unfold cmpI; (repeat split) <;> omega), rfl⟩

end Go.Proofs.Ytppgppnkhpjlpaa
