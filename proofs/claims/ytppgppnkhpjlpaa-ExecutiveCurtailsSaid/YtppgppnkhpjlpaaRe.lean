/- Walks, printed by program. -/
import Derived.Test.YtppgppnkhpjlpaaRd
namespace Go.Proofs.Ytppgppnkhpjlpaa
open Go.Vg Go.RowKit
set_option linter.unusedVariables false

open Go.Vm
set_option maxHeartbeats 4000000 in
theorem r01_divmod {w : World} {Dx : Nat → TypeId → Prop} {vx : Value} {x : List Nat} (hx0 : Sg (gN .u32) Dx w vx x) (lmx : Lm x) (lnx : x.length ≤ 549755813888) {Dy : Nat → TypeId → Prop} {vy : Value} {y : List Nat} (hy0 : Sg (gN .u32) Dy w vy y) (lmy : Lm y) (lny : y.length ≤ 549755813888) :
    Calls Try.prog 54 #[vx, vy] w fun e w' => ∃ v, e = .returned v ∧ (∃ vq vr, v = .tuple #[vq, vr, .bool (decide (val y ≠ 0))] ∧ Sg (gN .u32) (fun b T => w.heap.size ≤ b ∧ T = 52) w' vq (digs (val x / val y)) ∧ Sg (gN .u32) (fun b T => w.heap.size ≤ b ∧ T = 52) w' vr (digs (modZ (val x) (val y)))) ∧ Ext w w' := by
  have hE : Below w.heap.size w w := Below.refl _ _
  have hx := hx0.old
  clear hx0
  have hy := hy0.old
  clear hy0
  refine calls_of (n := 84) (rs := [.tmp 4, .tmp 5, .tmp 6]) Try.func54 rfl rfl rfl (Nat.le_of_ble_eq_true rfl) ?_
  refine wset fun F0 hF0 => ?_
  refine wseq ?_
  refine wregion ?_
  refine RL.val rfl rfl (by decide) (r_assign_as (v := (.slice none (0) (0))) rfl) ?_
  refine RL.val rfl rfl (by decide) (r_assign_as (v := (.slice none (0) (0))) rfl) ?_
  refine RL.val rfl rfl (by decide) (r_assign_as (v := (.bool (false))) rfl) ?_
  refine RL.nil ?_
  refine wseq ?_
  refine wregion ?_
  refine RL.val rfl rfl (by decide) (r_move_as (v := vy) (hF0 1)) ?_
  refine RL.call rfl rfl (by decide) (r_call (vl := [vy]) ent58 rfl) (r01_trim hy (by assumption) (by first | omega | simp)) ?_
  rintro vr3 w1 ⟨hr4, he2⟩
  have he2z := he2.size
  replace hx := hx.tr (Sm.ext he2)
  replace hy := hy.tr (Sm.ext he2)
  replace hE := Below.ext hE (by omega) he2
  have hlt5 : (digs (val y)).length ≤ y.length := len_le_of (by assumption)
  refine RL.val rfl rfl (by decide) (r_assign_as (v := vr3) rfl) ?_
  refine RL.nil ?_
  refine wseq ?_
  refine wseq ?_
  refine wregion ?_
  refine RL.val rfl rfl (by decide) (r_move_as (v := vr3) rfl) ?_
  obtain ⟨A6, c7, hv8, hc9, hc10⟩ := hr4.len
  refine RL.val rfl rfl (by decide) (r_len Try.underlying38 hv8) ?_
  refine RL.val rfl rfl (by decide) (r_eql (k := .i64) (a := (((digs (val y)).length : Nat) : Int)) (b := 0) rfl rfl) ?_
  refine RL.nil ?_
  refine wcond (b := decide ((((digs (val y)).length : Nat) : Int) = 0)) rfl (fun hb11 => ?_) (fun hb11 => ?_)
  · have hb11p := hb11
    replace hb11p := of_decide_eq_true hb11p
    have hy0 : val y = 0 := len_zero.1 (by unfold len; omega)
    refine wseq ?_
    refine wregion ?_
    refine RL.val rfl rfl (by decide) (r_assign_as (v := (.slice none (0) (0))) rfl) ?_
    refine RL.val rfl rfl (by decide) (r_assign_as (v := (.slice none (0) (0))) rfl) ?_
    refine RL.val rfl rfl (by decide) (r_assign_as (v := (.bool (false))) rfl) ?_
    refine RL.nil ?_
    refine wret ?_
    refine ⟨[(.slice none (0) (0)), (.slice none (0) (0)), (.bool (false))], ⟨rfl, ⟨rfl, ⟨rfl, trivial⟩⟩⟩, ?_⟩
    exact ⟨⟨_, _, by rw [decide_eq_false (by omega)]; rfl, by rw [hy0, Nat.div_zero]; exact Sg.nil, by rw [hy0]; exact Sg.nil⟩, hE⟩
  · have hb11p := hb11
    replace hb11p := of_decide_eq_false hb11p
    have hy0 : val y ≠ 0 := fun h => by have := len_zero.2 h; unfold len at this; omega
    refine wskip ?_
    refine wseq ?_
    refine wregion ?_
    refine RL.val rfl rfl (by decide) (r_move_as (v := vx) (hF0 0)) ?_
    refine RL.call rfl rfl (by decide) (r_call (vl := [vx]) ent50 rfl) (r01_uint hx (by assumption) (by first | omega | simp)) ?_
    rintro vq14 w12 ⟨hq15, he13⟩
    have he13z := he13.size
    subst hq15
    replace hx := hx.tr (Sm.ext he13)
    replace hy := hy.tr (Sm.ext he13)
    replace hE := Below.ext hE (by omega) he13
    replace hr4 := hr4.tr (Sm.ext he13)
    refine RL.val rfl rfl (by decide) (r_move_as (v := (.tuple #[(.int .u64 (((if (val x) < 18446744073709551616 then (val x) else 0 : Nat) : Int))), (.bool (decide ((val x) < 18446744073709551616)))])) rfl) ?_
    refine RL.val rfl rfl (by decide) (r_extract (v := (.int .u64 (((if (val x) < 18446744073709551616 then (val x) else 0 : Nat) : Int)))) rfl rfl) ?_
    refine RL.val rfl rfl (by decide) (r_extract (v := (.bool (decide ((val x) < 18446744073709551616)))) rfl rfl) ?_
    refine RL.val rfl rfl (by decide) (r_assign_as (v := (.int .u64 (((if (val x) < 18446744073709551616 then (val x) else 0 : Nat) : Int)))) rfl) ?_
    refine RL.val rfl rfl (by decide) (r_assign_as (v := (.bool (decide ((val x) < 18446744073709551616)))) rfl) ?_
    refine RL.nil ?_
    refine wseq ?_
    refine wseq ?_
    refine wregion ?_
    refine RL.val rfl rfl (by decide) (r_move_as (v := vr3) rfl) ?_
    refine RL.call rfl rfl (by decide) (r_call (vl := [vr3]) ent50 rfl) (r01_uint hr4 (digs_lm _) (by first | omega | simp)) ?_
    rintro vq18 w16 ⟨hq19, he17⟩
    have he17z := he17.size
    simp only [val_digs] at hq19
    subst hq19
    replace hx := hx.tr (Sm.ext he17)
    replace hy := hy.tr (Sm.ext he17)
    replace hE := Below.ext hE (by omega) he17
    replace hr4 := hr4.tr (Sm.ext he17)
    refine RL.val rfl rfl (by decide) (r_move_as (v := (.tuple #[(.int .u64 (((if (val y) < 18446744073709551616 then (val y) else 0 : Nat) : Int))), (.bool (decide ((val y) < 18446744073709551616)))])) rfl) ?_
    refine RL.val rfl rfl (by decide) (r_extract (v := (.int .u64 (((if (val y) < 18446744073709551616 then (val y) else 0 : Nat) : Int)))) rfl rfl) ?_
    refine RL.val rfl rfl (by decide) (r_extract (v := (.bool (decide ((val y) < 18446744073709551616)))) rfl rfl) ?_
    refine RL.val rfl rfl (by decide) (r_assign_as (v := (.int .u64 (((if (val y) < 18446744073709551616 then (val y) else 0 : Nat) : Int)))) rfl) ?_
    refine RL.val rfl rfl (by decide) (r_assign_as (v := (.bool (decide ((val y) < 18446744073709551616)))) rfl) ?_
    refine RL.nil ?_
    refine wseq ?_
    refine wregion ?_
    refine RL.val rfl rfl (by decide) (r_move_as (v := (.bool (decide ((val x) < 18446744073709551616)))) rfl) ?_
    refine RL.val rfl rfl (by decide) (r_move_as (v := (.bool (decide ((val x) < 18446744073709551616)))) rfl) ?_
    rcases Bool.eq_false_or_eq_true (decide ((val x) < 18446744073709551616)) with hb20 | hb20
    · have hb20p := hb20
      replace hb20p := of_decide_eq_true hb20p
      have hx64 : val x < 18446744073709551616 := hb20p
      refine RL.gval rfl rfl (bool_eq hb20) rfl (by decide) (r_move_as (v := (.bool (decide ((val y) < 18446744073709551616)))) rfl) ?_
      refine RL.val rfl rfl (by decide) (r_pick_t (v := (.bool (decide ((val y) < 18446744073709551616)))) (bool_eq hb20) rfl) ?_
      refine RL.nil ?_
      refine wcond (b := decide ((val y) < 18446744073709551616)) rfl (fun hb21 => ?_) (fun hb21 => ?_)
      · have hb21p := hb21
        replace hb21p := of_decide_eq_true hb21p
        have hy64 : val y < 18446744073709551616 := hb21p
        refine wseq ?_
        have hdq := Nat.div_le_self (val x) (val y)
        have hdm := Nat.mod_le (val x) (val y)
        refine wdraw mixed fun w22 he23 => ?_
        have he23z := he23.size
        replace hx := hx.tr (Sm.ext he23)
        replace hy := hy.tr (Sm.ext he23)
        replace hE := Below.ext hE (by omega) he23
        replace hr4 := hr4.tr (Sm.ext he23)
        refine RA.take 0 rfl (by kernel_rfl) rfl rfl (by decide) (fun _ => r_move_as (v := (.int .u64 (((if (val x) < 18446744073709551616 then (val x) else 0 : Nat) : Int)))) rfl) ?_
        refine RA.take 1 rfl (by kernel_rfl) rfl rfl (by decide) (fun _ => r_move_as (v := (.int .u64 (((if (val y) < 18446744073709551616 then (val y) else 0 : Nat) : Int)))) rfl) ?_
        refine RA.take 2 rfl (by kernel_rfl) rfl rfl (by decide) (fun _ => r_quo (k := .u64) (a := ((if (val x) < 18446744073709551616 then (val x) else 0 : Nat) : Int)) (b := ((if (val y) < 18446744073709551616 then (val y) else 0 : Nat) : Int)) (c := ((val x / val y : Nat) : Int)) rfl rfl (by rw [if_pos hy64]; omega) (by rw [if_pos hx64, if_pos hy64]; exact quoN hx64)) ?_
        refine RA.take 4 rfl (by kernel_rfl) rfl rfl (by decide) (fun _ => r_move_as (v := (.int .u64 (((if (val x) < 18446744073709551616 then (val x) else 0 : Nat) : Int)))) rfl) ?_
        refine RA.take 5 rfl (by kernel_rfl) rfl rfl (by decide) (fun _ => r_move_as (v := (.int .u64 (((if (val y) < 18446744073709551616 then (val y) else 0 : Nat) : Int)))) rfl) ?_
        refine RA.take 6 rfl (by kernel_rfl) rfl rfl (by decide) (fun _ => r_rem (k := .u64) (a := ((if (val x) < 18446744073709551616 then (val x) else 0 : Nat) : Int)) (b := ((if (val y) < 18446744073709551616 then (val y) else 0 : Nat) : Int)) (c := ((val x % val y : Nat) : Int)) rfl rfl (by rw [if_pos hy64]; omega) (by rw [if_pos hx64, if_pos hy64]; exact remN _ _)) ?_
        refine RA.all [3] (by kernel_rfl) rfl ?_
        refine RS.call rfl rfl rfl (by decide) (r_call (vl := [(.int .u64 (((val x / val y : Nat) : Int)))]) ent47 rfl) (r01_from (by omega)) ?_ RS.nil
        rintro vr26 w24 ⟨hr27, he25⟩
        refine ⟨.inr (.inr he25), RA.more (S' := fun u => Ext _ u) (fun u hu => Ext.trans he25 hu) ?_⟩
        have he25z := he25.size
        replace hx := hx.tr (Sm.ext he25)
        replace hy := hy.tr (Sm.ext he25)
        replace hE := Below.ext hE (by omega) he25
        replace hr4 := hr4.tr (Sm.ext he25)
        refine RA.all [7] (by kernel_rfl) rfl ?_
        refine RS.call rfl rfl rfl (by decide) (r_call (vl := [(.int .u64 (((val x % val y : Nat) : Int)))]) ent47 rfl) (r01_from (by omega)) ?_ RS.nil
        rintro vr30 w28 ⟨hr31, he29⟩
        refine ⟨.inr (.inr he29), RA.more (S' := fun u => Ext _ u) (fun u hu => Ext.trans he29 hu) ?_⟩
        have he29z := he29.size
        replace hx := hx.tr (Sm.ext he29)
        replace hy := hy.tr (Sm.ext he29)
        replace hE := Below.ext hE (by omega) he29
        replace hr4 := hr4.tr (Sm.ext he29)
        replace hr27 := hr27.tr (Sm.ext he29)
        refine RA.take 8 rfl (by kernel_rfl) rfl rfl (by decide) (fun _ => r_assign_as (v := vr26) rfl) ?_
        refine RA.take 9 rfl (by kernel_rfl) rfl rfl (by decide) (fun _ => r_assign_as (v := vr30) rfl) ?_
        refine RA.take 10 rfl (by kernel_rfl) rfl rfl (by decide) (fun _ => r_assign_as (v := (.bool (true))) rfl) ?_
        refine RA.done (by kernel_rfl) ?_
        refine wret ?_
        refine ⟨[vr26, vr30, (.bool (true))], ⟨rfl, ⟨rfl, ⟨rfl, trivial⟩⟩⟩, ?_⟩
        have h1 := hr27
        have h2 := hr31
        have hm : modZ (val x) (val y) = val x % val y := if_neg hy0
        exact ⟨⟨_, _, by rw [decide_eq_true hy0]; rfl, h1.mono (fun b T h => by first | exact ⟨by have := h.1; omega, h.2⟩ | exact ⟨by have := h.1; omega, h.2.1⟩ | exact ⟨by have := h.1; omega, h.2, by have := h.1; omega⟩ | exact ⟨by have := h.1; omega, h.2.1, by have := h.1; omega⟩ | exact ⟨by have := h.1; omega, h.2.1, h.2.2⟩), by rw [hm]; exact h2.mono (fun b T h => by first | exact ⟨by have := h.1; omega, h.2⟩ | exact ⟨by have := h.1; omega, h.2.1⟩ | exact ⟨by have := h.1; omega, h.2, by have := h.1; omega⟩ | exact ⟨by have := h.1; omega, h.2.1, by have := h.1; omega⟩ | exact ⟨by have := h.1; omega, h.2.1, h.2.2⟩)⟩, hE⟩
      · have hb21p := hb21
        replace hb21p := of_decide_eq_false hb21p
        refine wskip ?_
        refine wseq ?_
        replace hr4 := hr4.old
        refine wregion ?_
        refine RL.val rfl rfl (by decide) (r_move_as (v := vx) (hF0 0)) ?_
        obtain ⟨A32, c33, hv34, hc35, hc36⟩ := hx.len
        refine RL.val rfl rfl (by decide) (r_len Try.underlying38 hv34) ?_
        have hn42 : (((x.length : Nat) : Int) : Int) = ((x.length : Nat) : Int) := by omega
        refine RL.run rfl rfl (by decide) (h_make1 (n := x.length) Try.underlying38 ty52 rfl (int_eq hn42) (int_eq hn42) (by omega) (by omega)) ?_
        rintro _ w37 ⟨b38, rfl, hs41, hb40, he39⟩
        have he39z := he39.size
        replace hx := hx.tr (Sm.ext he39)
        replace hy := hy.tr (Sm.ext he39)
        replace hE := Below.ext hE (by omega) he39
        replace hr4 := hr4.tr (Sm.ext he39)
        replace hb40 := Ar.made (g := (gN .u32)) (z := (0 : Nat)) hb40 rfl
        have hb40l := hb40.lt
        refine RL.val rfl rfl (by decide) (r_assign_as (v := (.slice (some ⟨b38, 0, none⟩) (x.length) (x.length))) rfl) ?_
        refine RL.nil ?_
        refine wseq ?_
        refine wseq ?_
        refine wregion ?_
        refine RL.val rfl rfl (by decide) (r_move_as (v := vx) (hF0 0)) ?_
        refine RL.call rfl rfl (by decide) (r_call (vl := [vx]) ent60 rfl) (r01_bits hx (by assumption) (by first | omega | simp)) ?_
        rintro _ w43 ⟨⟨t, rfl, ht, htl⟩, he44⟩
        have he44z := he44.size
        replace hx := hx.tr (Sm.ext he44)
        replace hy := hy.tr (Sm.ext he44)
        replace hE := Below.ext hE (by omega) he44
        replace hr4 := hr4.tr (Sm.ext he44)
        replace hb40 := hb40.ext he44
        refine RL.val rfl rfl (by decide) (r_sub (k := .i64) (a := ((t : Nat) : Int)) (b := 1) (c := ((t : Nat) : Int) - 1) rfl rfl (wi64 (by omega))) ?_
        refine RL.val rfl rfl (by decide) (r_assign_as (v := (.int .i64 (((t : Nat) : Int) - 1))) rfl) ?_
        refine RL.nil ?_
        refine wblock ?_
        refine wset fun F45 hF46 => ?_
        refine wloop (σ := Nat × Nat × Nat × List Nat × Value) (fun (s : Nat × Nat × Nat × List Nat × Value) fl wl => match s with | (j, Qn, r, O, v5) => Off [5, 11, 12, 13, 47, 48, 49, 50, 51, 52, 53, 54, 55, 56, 57, 58, 59, 60, 61, 62, 63, 64, 65, 66, 67, 68, 69, 70, 71, 72, 73, 74, 75, 76, 77, 78, 79] F45 fl ∧ fl 11 = (.int .i64 (((j : Nat) : Int) - 1)) ∧ fl 5 = v5 ∧ (j ≤ t) ∧ (val x / 2 ^ j = Qn * val y + r) ∧ (r < val y) ∧ (O.length = x.length) ∧ (Lm O) ∧ (val O = Qn * 2 ^ j) ∧ (Sg (gN .u32) (fun b T => Dx b T ∧ b < w.heap.size) wl vx x) ∧ (Sg (gN .u32) (fun b T => (fun b T => w.heap.size ≤ b ∧ T = 52) b T ∧ b < w16.heap.size) wl vr3 (digs (val y))) ∧ (Ar (gN .u32) wl b38 52 0 O x.length) ∧ (Below w.heap.size w wl) ∧ (Sg (gN .u32) (fun b T => w.heap.size ≤ b ∧ T = 52 ∧ b ≠ b38) wl v5 (digs r)) ∧ (w43.heap.size ≤ wl.heap.size)) (fun (s : Nat × Nat × Nat × List Nat × Value) => match s with | (j, Qn, r, O, v5) => j) (t, 0, 0, List.replicate x.length 0, .slice none 0 0) ?_ ?_
        · exact ⟨Off.refl _ _, (hF46 11).trans (rfl), (hF46 5).trans (rfl), Nat.le_refl _, (by rw [Nat.div_eq_of_lt ht]; simp), (by omega), (by simp), Lm.zeros _, (by rw [val_zeros]; simp), hx, hr4, hb40, hE, Sg.nil, Nat.le_refl _⟩
        · clear hx hy hE hr4 hb40
          rintro ⟨j, Qn, r, O, v5⟩ f48 w49 ⟨hoff50, hs51, hs52, hj, hdiv, hr, hOl, hOm, hOv, hx, hr4, hb40, hE, hr5, hz47⟩
          refine wseq ?_
          refine wseq ?_
          refine wregion ?_
          refine RL.val rfl rfl (by decide) (r_move_as (v := (.int .i64 (((j : Nat) : Int) - 1))) hs51) ?_
          refine RL.val rfl rfl (by decide) (r_geq (k := .i64) (a := ((j : Nat) : Int) - 1) (b := 0) rfl rfl) ?_
          refine RL.nil ?_
          refine wcond (b := decide (0 ≤ (((j : Nat) : Int) - 1))) rfl (fun hb53 => ?_) (fun hb53 => ?_)
          · have hb53p := hb53
            replace hb53p := of_decide_eq_true hb53p
            refine wskip ?_
            refine wseq ?_
            refine wblock ?_
            refine wseq ?_
            obtain ⟨i, hi⟩ : ∃ i, j = i + 1 := ⟨j - 1, by omega⟩
            have hlr : (digs r).length ≤ (digs (val y)).length := len_mono (by omega)
            have hb1 : val x / 2 ^ i % 2 < 2 := Nat.mod_lt _ (by decide)
            have hlr2 := len_add r r
            simp only [← len_digs] at hlr2
            have hnx := div_next (i := i) (by rw [← hi]; exact hdiv)
            refine wregion ?_
            refine RL.val rfl rfl (by decide) (r_move_as (v := v5) hs52) ?_
            refine RL.val rfl rfl (by decide) (r_move_as (v := v5) hs52) ?_
            refine RL.call rfl rfl (by decide) (r_call (vl := [v5, v5]) ent61 rfl) (r01_add hr5 (digs_lm _) (by first | omega | simp) hr5 (digs_lm _) (by first | omega | simp)) ?_
            rintro vr56 w54 ⟨hr57, he55⟩
            try rw [val_digs] at hr57
            try rw [val_digs] at hr57
            have he55z := he55.size
            replace hx := hx.tr (Sm.ext he55)
            replace hE := Below.ext hE (by omega) he55
            replace hr4 := hr4.tr (Sm.ext he55)
            replace hb40 := hb40.ext he55
            replace hr5 := hr5.tr (Sm.ext he55)
            refine RL.val rfl rfl (by decide) (r_assign_as (v := vr56) rfl) ?_
            refine RL.nil ?_
            refine wset fun F58 hF59 => ?_
            refine wcut (fun fl wl => ∃ v6 : Value, Off [5, 54, 55, 56, 57, 58, 59, 60] F58 fl ∧ fl 5 = v6 ∧ (Sg (gN .u32) (fun b T => Dx b T ∧ b < w.heap.size) wl vx x) ∧ (Sg (gN .u32) (fun b T => (fun b T => w.heap.size ≤ b ∧ T = 52) b T ∧ b < w16.heap.size) wl vr3 (digs (val y))) ∧ (Ar (gN .u32) wl b38 52 0 O x.length) ∧ (Below w.heap.size w wl) ∧ (Sg (gN .u32) (fun b T => w.heap.size ≤ b ∧ T = 52 ∧ b ≠ b38) wl v6 (digs (r + r + val x / 2 ^ i % 2))) ∧ (w54.heap.size ≤ wl.heap.size)) ?_ ?_
            · have hoff61 := Off.refl [5, 54, 55, 56, 57, 58, 59, 60] F58
              refine wseq ?_
              refine wregion ?_
              refine RL.val rfl rfl (by decide) (r_move_as (v := vx) ((hF59 0).trans ((hoff50 0 rfl).trans ((hF46 0).trans (hF0 0))))) ?_
              refine RL.val rfl rfl (by decide) (r_move_as (v := .int .i64 ((i : Nat) : Int)) (((hF59 11).trans hs51).trans (int_eq (by omega)))) ?_
              refine RL.call rfl rfl (by decide) (r_call (vl := [vx, (.int .i64 (((i : Nat) : Int)))]) ent62 rfl) (r01_bit hx (by assumption) (by first | omega | simp) (i := i) (by omega)) ?_
              rintro _ w62 ⟨rfl, he63⟩
              have he63z := he63.size
              replace hx := hx.tr (Sm.ext he63)
              replace hE := Below.ext hE (by omega) he63
              replace hr4 := hr4.tr (Sm.ext he63)
              replace hb40 := hb40.ext he63
              replace hr5 := hr5.tr (Sm.ext he63)
              replace hr57 := hr57.tr (Sm.ext he63)
              refine RL.val rfl rfl (by decide) (r_eql (k := .u32) (a := (((val x) / 2 ^ i % 2 : Nat) : Int)) (b := 1) rfl rfl) ?_
              refine RL.nil ?_
              refine wcond (b := decide ((((val x) / 2 ^ i % 2 : Nat) : Int) = 1)) rfl (fun hb64 => ?_) (fun hb64 => ?_)
              · have hb64p := hb64
                replace hb64p := of_decide_eq_true hb64p
                refine wregion ?_
                refine RL.val rfl rfl (by decide) (r_move_as (v := vr56) (hF59 5)) ?_
                refine RL.run rfl rfl (by decide) (h_lit (vl := [(0, (.int .u32 (1)))]) (cs := [(.int .u32 (1))]) Try.underlying38 ty52 rfl (by decide) (by first | (simp [Instr.fill, Value.cells]; done) | rfl | kernel_rfl)) ?_
                rintro _ w65 ⟨b66, rfl, hs69, hb68, he67⟩
                have he67z := he67.size
                replace hx := hx.tr (Sm.ext he67)
                replace hE := Below.ext hE (by omega) he67
                replace hr4 := hr4.tr (Sm.ext he67)
                replace hb40 := hb40.ext he67
                replace hr5 := hr5.tr (Sm.ext he67)
                replace hr57 := hr57.tr (Sm.ext he67)
                have hb68l := hb68.lt
                refine RL.call rfl rfl (by decide) (r_call (vl := [vr56, (.slice (some ⟨b66, 0, none⟩) (1) (1))]) ent61 rfl) (r01_add hr57 (digs_lm _) (by first | omega | simp) (hb68.sg (g := gN .u32) (D := fun _ _ => True) (xs := [1]) trivial rfl rfl (by decide)) (by first | assumption | (intro z hz; simp at hz; omega)) (by first | omega | simp)) ?_
                rintro vr72 w70 ⟨hr73, he71⟩
                try rw [val_digs] at hr73
                have he71z := he71.size
                replace hx := hx.tr (Sm.ext he71)
                replace hE := Below.ext hE (by omega) he71
                replace hr4 := hr4.tr (Sm.ext he71)
                replace hb40 := hb40.ext he71
                replace hr5 := hr5.tr (Sm.ext he71)
                replace hr57 := hr57.tr (Sm.ext he71)
                replace hb68 := hb68.ext he71
                refine RL.val rfl rfl (by decide) (r_assign_as (v := vr72) rfl) ?_
                refine RL.nil ?_
                refine ⟨vr72, ?_, ?_, ?_, ?_, ?_, ?_, ?_, ?_⟩
                · exact (by repeat (first | exact hoff61 | refine Off.st ?_ (by decide) _ | refine Off.via hoff50 (by decide) ?_ | refine Off.eq hF46 ?_))
                · first | rfl | exact int_eq (by omega) | exact bool_eq (by simp)
                · exact hx
                · omega
                · exact hb40
                · exact hE
                · have h9 : (digs ((r + r) + (val ([1])))) = digs (r + r + val x / 2 ^ i % 2) := by first | rfl | (have h8 : val [1] = 1 := rfl; rw [h8]; congr 1; omega) | (congr 1; omega)
                  rw [← h9]
                  exact hr73.mono (fun b T h => by first | exact ⟨by have := h.1; omega, h.2⟩ | exact ⟨by have := h.1; omega, h.2.1⟩ | exact ⟨by have := h.1; omega, h.2, by have := h.1; omega⟩ | exact ⟨by have := h.1; omega, h.2.1, by have := h.1; omega⟩ | exact ⟨by have := h.1; omega, h.2.1, h.2.2⟩)
                · omega
              · have hb64p := hb64
                replace hb64p := of_decide_eq_false hb64p
                refine wskip ?_
                refine ⟨vr56, ?_, ?_, ?_, ?_, ?_, ?_, ?_, ?_⟩
                · exact (by repeat (first | exact hoff61 | refine Off.st ?_ (by decide) _ | refine Off.via hoff50 (by decide) ?_ | refine Off.eq hF46 ?_))
                · refine ((hF59 5)).trans ?_
                  first | rfl | exact int_eq (by omega) | exact bool_eq (by simp)
                · exact hx
                · omega
                · exact hb40
                · exact hE
                · have h9 : (digs (r + r)) = digs (r + r + val x / 2 ^ i % 2) := by first | rfl | (have h8 : val [1] = 1 := rfl; rw [h8]; congr 1; omega) | (congr 1; omega)
                  rw [← h9]
                  exact hr57.mono (fun b T h => by first | exact ⟨by have := h.1; omega, h.2⟩ | exact ⟨by have := h.1; omega, h.2.1⟩ | exact ⟨by have := h.1; omega, h.2, by have := h.1; omega⟩ | exact ⟨by have := h.1; omega, h.2.1, by have := h.1; omega⟩ | exact ⟨by have := h.1; omega, h.2.1, h.2.2⟩)
                · omega
            · clear hx hE hr4 hb40 hr5 hr57
              rintro f74 w75 ⟨v6, hoff76, hs77, hx, hr4, hb40, hE, hr6, hz60⟩
              refine wseq ?_
              have hlr3 := len_mono (m := (r + r + val x / 2 ^ i % 2)) (n := val y + val y) (by omega)
              have hlr4 := len_add (val y) (val y)
              simp only [← len_digs] at hlr3 hlr4
              refine wregion ?_
              refine RL.val rfl rfl (by decide) (r_move_as (v := v6) hs77) ?_
              refine RL.val rfl rfl (by decide) (r_move_as (v := vr3) ((hoff76 1 rfl).trans ((hF59 1).trans ((hoff50 1 rfl).trans (hF46 1))))) ?_
              refine RL.call rfl rfl (by decide) (r_call (vl := [v6, vr3]) ent63 rfl) (r01_sub hr6 (digs_lm _) (by first | omega | simp) hr4 (digs_lm _) (by first | omega | simp)) ?_
              rintro vq82 w78 ⟨⟨vr80, hq83, hr81⟩, he79⟩
              simp only [val_digs] at hq83 hr81
              subst hq83
              have he79z := he79.size
              replace hx := hx.tr (Sm.ext he79)
              replace hE := Below.ext hE (by omega) he79
              replace hr4 := hr4.tr (Sm.ext he79)
              replace hb40 := hb40.ext he79
              replace hr6 := hr6.tr (Sm.ext he79)
              refine RL.val rfl rfl (by decide) (r_move_as (v := (.tuple #[vr80, (.bool (decide ((val y) ≤ (r + r + val x / 2 ^ i % 2))))])) rfl) ?_
              refine RL.val rfl rfl (by decide) (r_extract (v := vr80) rfl rfl) ?_
              refine RL.val rfl rfl (by decide) (r_extract (v := (.bool (decide ((val y) ≤ (r + r + val x / 2 ^ i % 2))))) rfl rfl) ?_
              refine RL.val rfl rfl (by decide) (r_assign_as (v := vr80) rfl) ?_
              refine RL.val rfl rfl (by decide) (r_assign_as (v := (.bool (decide ((val y) ≤ (r + r + val x / 2 ^ i % 2))))) rfl) ?_
              refine RL.nil ?_
              refine wseq ?_
              refine wregion ?_
              refine RL.val rfl rfl (by decide) (r_move_as (v := (.bool (decide ((val y) ≤ (r + r + val x / 2 ^ i % 2))))) rfl) ?_
              refine RL.nil ?_
              refine wcond (b := decide ((val y) ≤ (r + r + val x / 2 ^ i % 2))) rfl (fun hb84 => ?_) (fun hb84 => ?_)
              · have hb84p := hb84
                replace hb84p := of_decide_eq_true hb84p
                refine wseq ?_
                refine wregion ?_
                refine RL.val rfl rfl (by decide) (r_move_as (v := vr80) rfl) ?_
                refine RL.val rfl rfl (by decide) (r_assign_as (v := vr80) rfl) ?_
                refine RL.nil ?_
                have hsb := setbit (i := i) hOm (by omega) (by rw [hOv, hi]; exact Nat.mul_mod_left _ _)
                refine wregion ?_
                refine RL.val rfl rfl (by decide) (r_move_as (v := (.slice (some ⟨b38, 0, none⟩) (x.length) (x.length))) ((hoff76 4 rfl).trans ((hF59 4).trans ((hoff50 4 rfl).trans (hF46 4))))) ?_
                refine RL.val rfl rfl (by decide) (r_move_as (v := .int .i64 ((i : Nat) : Int)) (((hoff76 11 rfl).trans ((hF59 11).trans hs51)).trans (int_eq (by omega)))) ?_
                refine RL.val rfl rfl (by decide) (r_quo (k := .i64) (a := ((i : Nat) : Int)) (b := 32) (c := ((i / 32 : Nat) : Int)) rfl rfl (by decide) (quo32 (by omega))) ?_
                refine RL.val rfl rfl (by decide) (r_indexAddr (i := ((i / 32 : Nat) : Int)) Try.underlying38 ty52 rfl rfl (by omega) (by omega)) ?_
                have hc85 := hb40.cell (i := ((i / 32 : Nat) : Int)) (i / 32) (by omega) (by omega)
                refine RL.val rfl rfl (by decide) (r_load (v := (.int .u32 (((O.getD (i / 32) default : Nat) : Int)))) Try.underlying52 ag52 rfl hc85) ?_
                refine RL.val rfl rfl (by decide) (r_move_as (v := .int .i64 ((i : Nat) : Int)) (((hoff76 11 rfl).trans ((hF59 11).trans hs51)).trans (int_eq (by omega)))) ?_
                refine RL.val rfl rfl (by decide) (r_rem (k := .i64) (a := ((i : Nat) : Int)) (b := 32) (c := ((i % 32 : Nat) : Int)) rfl rfl (by decide) (rem32 _)) ?_
                refine RL.val rfl rfl (by decide) (r_conv (k := .u64) (a := ((i % 32 : Nat) : Int)) (c := ((i % 32 : Nat) : Int)) Try.underlying3 Try.underlying77 rfl (wu64 (by omega))) ?_
                refine RL.val rfl rfl (by decide) (r_shl (k := .u32) (a := 1) (b := ((i % 32 : Nat) : Int)) (c := ((2 ^ (i % 32) : Nat) : Int)) rfl rfl (by omega) (shl1 (by omega))) ?_
                refine RL.val rfl rfl (by decide) (r_or (k := .u32) (a := ((O.getD (i / 32) default : Nat) : Int)) (b := ((2 ^ (i % 32) : Nat) : Int)) (c := ((O.getD (i / 32) default ||| 2 ^ (i % 32) : Nat) : Int)) rfl rfl (orN (hOm.at (by omega)) (show 2 ^ (i % 32) < 2 ^ 32 from Nat.pow_lt_pow_right (by decide) (by omega)))) ?_
                refine RL.val rfl rfl (by decide) (r_indexAddr (i := ((i / 32 : Nat) : Int)) Try.underlying38 ty52 rfl rfl (by omega) (by omega)) ?_
                refine RL.runs rfl rfl (h_set (g := (gN .u32)) (vv := (.int .u32 (((O.getD (i / 32) default ||| 2 ^ (i % 32) : Nat) : Int)))) (u := O.getD (i / 32) default + 2 ^ (i % 32)) (i := ((i / 32 : Nat) : Int)) ty52 rfl rfl (int_eq (by rw [hsb.1])) rfl rfl hb40 (i / 32) (by omega) (by omega)) ?_
                rintro w86 ⟨ha87, hx88⟩
                have hx88z := hx88.size
                replace hx := hx.tr (hb40.sm hx88 (by (intro h; have := h.2; omega)))
                replace hE := Below.exc hE (by omega) hx88 (by omega)
                replace hr4 := hr4.tr (hb40.sm hx88 (by (intro h; have := h.2; omega)))
                replace hr6 := hr6.tr (hb40.sm hx88 (by (intro h; exact h.2.2 rfl)))
                replace hr81 := hr81.tr (hb40.sm hx88 (by intro hd; have hd2 := hd.1; omega))
                replace hb40 := ha87
                refine RL.nil ?_
                refine wregion ?_
                refine RL.val rfl rfl (by decide) (r_move_as (v := (.int .i64 (((j : Nat) : Int) - 1))) ((hoff76 11 rfl).trans ((hF59 11).trans hs51))) ?_
                refine RL.val rfl rfl (by decide) (r_sub (k := .i64) (a := ((j : Nat) : Int) - 1) (b := 1) (c := (((j : Nat) : Int) - 1) - 1) rfl rfl (wi64 (by omega))) ?_
                refine RL.val rfl rfl (by decide) (r_assign_as (v := (.int .i64 ((((j : Nat) : Int) - 1) - 1))) rfl) ?_
                refine RL.nil ?_
                refine ⟨(i, 2 * Qn + 1, (r + r + val x / 2 ^ i % 2) - val y, O.set (i / 32) (O.getD (i / 32) default + 2 ^ (i % 32)), vr80), ⟨?_, ?_, ?_, ?_, ?_, ?_, ?_, ?_, ?_, ?_, ?_, ?_, ?_, ?_, ?_⟩, ?_⟩
                · exact (by repeat (first | exact hoff50 | refine Off.st ?_ (by decide) _ | refine Off.via hoff76 (by decide) ?_ | refine Off.eq hF59 ?_))
                · first | rfl | exact int_eq (by omega) | exact bool_eq (by simp)
                · first | rfl | exact int_eq (by omega) | exact bool_eq (by simp)
                · omega
                · rw [hnx, Nat.add_mul, Nat.one_mul]; omega
                · omega
                · rw [List.length_set]; exact hOl
                · exact hOm.set hsb.2.1
                · rw [hsb.2.2, hOv, hi, dm_shift, Nat.add_mul, Nat.one_mul]
                · exact hx
                · exact hr4
                · exact hb40
                · exact hE
                · exact hr81.mono (fun b T h => by first | exact ⟨by have := h.1; omega, h.2⟩ | exact ⟨by have := h.1; omega, h.2.1⟩ | exact ⟨by have := h.1; omega, h.2, by have := h.1; omega⟩ | exact ⟨by have := h.1; omega, h.2.1, by have := h.1; omega⟩ | exact ⟨by have := h.1; omega, h.2.1, h.2.2⟩)
                · omega
                · (try dsimp only)
                  omega
              · have hb84p := hb84
                replace hb84p := of_decide_eq_false hb84p
                refine wskip ?_
                refine wregion ?_
                refine RL.val rfl rfl (by decide) (r_move_as (v := (.int .i64 (((j : Nat) : Int) - 1))) ((hoff76 11 rfl).trans ((hF59 11).trans hs51))) ?_
                refine RL.val rfl rfl (by decide) (r_sub (k := .i64) (a := ((j : Nat) : Int) - 1) (b := 1) (c := (((j : Nat) : Int) - 1) - 1) rfl rfl (wi64 (by omega))) ?_
                refine RL.val rfl rfl (by decide) (r_assign_as (v := (.int .i64 ((((j : Nat) : Int) - 1) - 1))) rfl) ?_
                refine RL.nil ?_
                refine ⟨(i, 2 * Qn, (r + r + val x / 2 ^ i % 2), O, v6), ⟨?_, ?_, ?_, ?_, ?_, ?_, ?_, ?_, ?_, ?_, ?_, ?_, ?_, ?_, ?_⟩, ?_⟩
                · exact (by repeat (first | exact hoff50 | refine Off.st ?_ (by decide) _ | refine Off.via hoff76 (by decide) ?_ | refine Off.eq hF59 ?_))
                · first | rfl | exact int_eq (by omega) | exact bool_eq (by simp)
                · refine (hs77).trans ?_
                  first | rfl | exact int_eq (by omega) | exact bool_eq (by simp)
                · omega
                · exact hnx
                · omega
                · exact hOl
                · exact hOm
                · rw [hOv, hi, dm_shift]
                · exact hx
                · exact hr4
                · exact hb40
                · exact hE
                · exact hr6.mono (fun b T h => by first | exact ⟨by have := h.1; omega, h.2⟩ | exact ⟨by have := h.1; omega, h.2.1⟩ | exact ⟨by have := h.1; omega, h.2, by have := h.1; omega⟩ | exact ⟨by have := h.1; omega, h.2.1, by have := h.1; omega⟩ | exact ⟨by have := h.1; omega, h.2.1, h.2.2⟩)
                · omega
                · (try dsimp only)
                  omega
          · have hb53p := hb53
            replace hb53p := of_decide_eq_false hb53p
            refine wexit ?_
            refine wseq ?_
            have hj0 : j = 0 := by omega
            have hfin := div_fin (n := val x) (b := val y) (Qn := Qn) (r := r) (by rw [hj0, Nat.pow_zero, Nat.div_one] at hdiv; exact hdiv) hr
            have hOq : val O = Qn := by rw [hOv, hj0, Nat.pow_zero, Nat.mul_one]
            have hlr : (digs r).length ≤ (digs (val y)).length := len_mono (by omega)
            refine wregion ?_
            refine RL.val rfl rfl (by decide) (r_move_as (v := (.slice (some ⟨b38, 0, none⟩) (x.length) (x.length))) ((hoff50 4 rfl).trans (hF46 4))) ?_
            refine RL.call rfl rfl (by decide) (r_call (vl := [(.slice (some ⟨b38, 0, none⟩) (x.length) (x.length))]) ent58 rfl) (r01_trim (hb40.sc (D := fun _ _ => True) (Nat.le_refl _) (by omega) trivial) (by assumption) (by first | omega | simp)) ?_
            rintro vr91 w89 ⟨hr92, he90⟩
            have he90z := he90.size
            replace hx := hx.tr (Sm.ext he90)
            replace hE := Below.ext hE (by omega) he90
            replace hr4 := hr4.tr (Sm.ext he90)
            replace hb40 := hb40.ext he90
            replace hr5 := hr5.tr (Sm.ext he90)
            have hlt93 : (digs (val O)).length ≤ O.length := len_le_of (by assumption)
            refine RL.val rfl rfl (by decide) (r_move_as (v := v5) hs52) ?_
            refine RL.call rfl rfl (by decide) (r_call (vl := [v5]) ent58 rfl) (r01_trim hr5 (digs_lm _) (by first | omega | simp)) ?_
            rintro vr96 w94 ⟨hr97, he95⟩
            try rw [val_digs] at hr97
            have he95z := he95.size
            replace hx := hx.tr (Sm.ext he95)
            replace hE := Below.ext hE (by omega) he95
            replace hr4 := hr4.tr (Sm.ext he95)
            replace hb40 := hb40.ext he95
            replace hr5 := hr5.tr (Sm.ext he95)
            replace hr92 := hr92.tr (Sm.ext he95)
            refine RL.val rfl rfl (by decide) (r_assign_as (v := vr91) rfl) ?_
            refine RL.val rfl rfl (by decide) (r_assign_as (v := vr96) rfl) ?_
            refine RL.val rfl rfl (by decide) (r_assign_as (v := (.bool (true))) rfl) ?_
            refine RL.nil ?_
            refine wret ?_
            refine ⟨[vr91, vr96, (.bool (true))], ⟨rfl, ⟨rfl, ⟨rfl, trivial⟩⟩⟩, ?_⟩
            have h1 := hr92
            have h2 := hr97
            rw [hOq, hfin.1] at h1
            rw [hfin.2] at h2
            have hm : modZ (val x) (val y) = val x % val y := if_neg hy0
            exact ⟨⟨_, _, by rw [decide_eq_true hy0]; rfl, h1.mono (fun b T h => by first | exact ⟨by have := h.1; omega, h.2⟩ | exact ⟨by have := h.1; omega, h.2.1⟩ | exact ⟨by have := h.1; omega, h.2, by have := h.1; omega⟩ | exact ⟨by have := h.1; omega, h.2.1, by have := h.1; omega⟩ | exact ⟨by have := h.1; omega, h.2.1, h.2.2⟩), by rw [hm]; exact h2.mono (fun b T h => by first | exact ⟨by have := h.1; omega, h.2⟩ | exact ⟨by have := h.1; omega, h.2.1⟩ | exact ⟨by have := h.1; omega, h.2, by have := h.1; omega⟩ | exact ⟨by have := h.1; omega, h.2.1, by have := h.1; omega⟩ | exact ⟨by have := h.1; omega, h.2.1, h.2.2⟩)⟩, hE⟩
    · have hb20p := hb20
      replace hb20p := of_decide_eq_false hb20p
      refine RL.gno rfl rfl (bool_eq hb20) rfl (by decide) ?_
      refine RL.val rfl rfl (by decide) (r_pick_f (v := (.bool (false))) (bool_eq hb20) rfl) ?_
      refine RL.nil ?_
      refine wcond_f rfl ?_
      refine wskip ?_
      refine wseq ?_
      replace hr4 := hr4.old
      refine wregion ?_
      refine RL.val rfl rfl (by decide) (r_move_as (v := vx) (hF0 0)) ?_
      obtain ⟨A98, c99, hv100, hc101, hc102⟩ := hx.len
      refine RL.val rfl rfl (by decide) (r_len Try.underlying38 hv100) ?_
      have hn108 : (((x.length : Nat) : Int) : Int) = ((x.length : Nat) : Int) := by omega
      refine RL.run rfl rfl (by decide) (h_make1 (n := x.length) Try.underlying38 ty52 rfl (int_eq hn108) (int_eq hn108) (by omega) (by omega)) ?_
      rintro _ w103 ⟨b104, rfl, hs107, hb106, he105⟩
      have he105z := he105.size
      replace hx := hx.tr (Sm.ext he105)
      replace hy := hy.tr (Sm.ext he105)
      replace hE := Below.ext hE (by omega) he105
      replace hr4 := hr4.tr (Sm.ext he105)
      replace hb106 := Ar.made (g := (gN .u32)) (z := (0 : Nat)) hb106 rfl
      have hb106l := hb106.lt
      refine RL.val rfl rfl (by decide) (r_assign_as (v := (.slice (some ⟨b104, 0, none⟩) (x.length) (x.length))) rfl) ?_
      refine RL.nil ?_
      refine wseq ?_
      refine wseq ?_
      refine wregion ?_
      refine RL.val rfl rfl (by decide) (r_move_as (v := vx) (hF0 0)) ?_
      refine RL.call rfl rfl (by decide) (r_call (vl := [vx]) ent60 rfl) (r01_bits hx (by assumption) (by first | omega | simp)) ?_
      rintro _ w109 ⟨⟨t, rfl, ht, htl⟩, he110⟩
      have he110z := he110.size
      replace hx := hx.tr (Sm.ext he110)
      replace hy := hy.tr (Sm.ext he110)
      replace hE := Below.ext hE (by omega) he110
      replace hr4 := hr4.tr (Sm.ext he110)
      replace hb106 := hb106.ext he110
      refine RL.val rfl rfl (by decide) (r_sub (k := .i64) (a := ((t : Nat) : Int)) (b := 1) (c := ((t : Nat) : Int) - 1) rfl rfl (wi64 (by omega))) ?_
      refine RL.val rfl rfl (by decide) (r_assign_as (v := (.int .i64 (((t : Nat) : Int) - 1))) rfl) ?_
      refine RL.nil ?_
      refine wblock ?_
      refine wset fun F111 hF112 => ?_
      refine wloop (σ := Nat × Nat × Nat × List Nat × Value) (fun (s : Nat × Nat × Nat × List Nat × Value) fl wl => match s with | (j, Qn, r, O, v5) => Off [5, 11, 12, 13, 47, 48, 49, 50, 51, 52, 53, 54, 55, 56, 57, 58, 59, 60, 61, 62, 63, 64, 65, 66, 67, 68, 69, 70, 71, 72, 73, 74, 75, 76, 77, 78, 79] F111 fl ∧ fl 11 = (.int .i64 (((j : Nat) : Int) - 1)) ∧ fl 5 = v5 ∧ (j ≤ t) ∧ (val x / 2 ^ j = Qn * val y + r) ∧ (r < val y) ∧ (O.length = x.length) ∧ (Lm O) ∧ (val O = Qn * 2 ^ j) ∧ (Sg (gN .u32) (fun b T => Dx b T ∧ b < w.heap.size) wl vx x) ∧ (Sg (gN .u32) (fun b T => (fun b T => w.heap.size ≤ b ∧ T = 52) b T ∧ b < w16.heap.size) wl vr3 (digs (val y))) ∧ (Ar (gN .u32) wl b104 52 0 O x.length) ∧ (Below w.heap.size w wl) ∧ (Sg (gN .u32) (fun b T => w.heap.size ≤ b ∧ T = 52 ∧ b ≠ b104) wl v5 (digs r)) ∧ (w109.heap.size ≤ wl.heap.size)) (fun (s : Nat × Nat × Nat × List Nat × Value) => match s with | (j, Qn, r, O, v5) => j) (t, 0, 0, List.replicate x.length 0, .slice none 0 0) ?_ ?_
      · exact ⟨Off.refl _ _, (hF112 11).trans (rfl), (hF112 5).trans (rfl), Nat.le_refl _, (by rw [Nat.div_eq_of_lt ht]; simp), (by omega), (by simp), Lm.zeros _, (by rw [val_zeros]; simp), hx, hr4, hb106, hE, Sg.nil, Nat.le_refl _⟩
      · clear hx hy hE hr4 hb106
        rintro ⟨j, Qn, r, O, v5⟩ f114 w115 ⟨hoff116, hs117, hs118, hj, hdiv, hr, hOl, hOm, hOv, hx, hr4, hb106, hE, hr5, hz113⟩
        refine wseq ?_
        refine wseq ?_
        refine wregion ?_
        refine RL.val rfl rfl (by decide) (r_move_as (v := (.int .i64 (((j : Nat) : Int) - 1))) hs117) ?_
        refine RL.val rfl rfl (by decide) (r_geq (k := .i64) (a := ((j : Nat) : Int) - 1) (b := 0) rfl rfl) ?_
        refine RL.nil ?_
        refine wcond (b := decide (0 ≤ (((j : Nat) : Int) - 1))) rfl (fun hb119 => ?_) (fun hb119 => ?_)
        · have hb119p := hb119
          replace hb119p := of_decide_eq_true hb119p
          refine wskip ?_
          refine wseq ?_
          refine wblock ?_
          refine wseq ?_
          obtain ⟨i, hi⟩ : ∃ i, j = i + 1 := ⟨j - 1, by omega⟩
          have hlr : (digs r).length ≤ (digs (val y)).length := len_mono (by omega)
          have hb1 : val x / 2 ^ i % 2 < 2 := Nat.mod_lt _ (by decide)
          have hlr2 := len_add r r
          simp only [← len_digs] at hlr2
          have hnx := div_next (i := i) (by rw [← hi]; exact hdiv)
          refine wregion ?_
          refine RL.val rfl rfl (by decide) (r_move_as (v := v5) hs118) ?_
          refine RL.val rfl rfl (by decide) (r_move_as (v := v5) hs118) ?_
          refine RL.call rfl rfl (by decide) (r_call (vl := [v5, v5]) ent61 rfl) (r01_add hr5 (digs_lm _) (by first | omega | simp) hr5 (digs_lm _) (by first | omega | simp)) ?_
          rintro vr122 w120 ⟨hr123, he121⟩
          try rw [val_digs] at hr123
          try rw [val_digs] at hr123
          have he121z := he121.size
          replace hx := hx.tr (Sm.ext he121)
          replace hE := Below.ext hE (by omega) he121
          replace hr4 := hr4.tr (Sm.ext he121)
          replace hb106 := hb106.ext he121
          replace hr5 := hr5.tr (Sm.ext he121)
          refine RL.val rfl rfl (by decide) (r_assign_as (v := vr122) rfl) ?_
          refine RL.nil ?_
          refine wset fun F124 hF125 => ?_
          refine wcut (fun fl wl => ∃ v6 : Value, Off [5, 54, 55, 56, 57, 58, 59, 60] F124 fl ∧ fl 5 = v6 ∧ (Sg (gN .u32) (fun b T => Dx b T ∧ b < w.heap.size) wl vx x) ∧ (Sg (gN .u32) (fun b T => (fun b T => w.heap.size ≤ b ∧ T = 52) b T ∧ b < w16.heap.size) wl vr3 (digs (val y))) ∧ (Ar (gN .u32) wl b104 52 0 O x.length) ∧ (Below w.heap.size w wl) ∧ (Sg (gN .u32) (fun b T => w.heap.size ≤ b ∧ T = 52 ∧ b ≠ b104) wl v6 (digs (r + r + val x / 2 ^ i % 2))) ∧ (w120.heap.size ≤ wl.heap.size)) ?_ ?_
          · have hoff127 := Off.refl [5, 54, 55, 56, 57, 58, 59, 60] F124
            refine wseq ?_
            refine wregion ?_
            refine RL.val rfl rfl (by decide) (r_move_as (v := vx) ((hF125 0).trans ((hoff116 0 rfl).trans ((hF112 0).trans (hF0 0))))) ?_
            refine RL.val rfl rfl (by decide) (r_move_as (v := .int .i64 ((i : Nat) : Int)) (((hF125 11).trans hs117).trans (int_eq (by omega)))) ?_
            refine RL.call rfl rfl (by decide) (r_call (vl := [vx, (.int .i64 (((i : Nat) : Int)))]) ent62 rfl) (r01_bit hx (by assumption) (by first | omega | simp) (i := i) (by omega)) ?_
            rintro _ w128 ⟨rfl, he129⟩
            have he129z := he129.size
            replace hx := hx.tr (Sm.ext he129)
            replace hE := Below.ext hE (by omega) he129
            replace hr4 := hr4.tr (Sm.ext he129)
            replace hb106 := hb106.ext he129
            replace hr5 := hr5.tr (Sm.ext he129)
            replace hr123 := hr123.tr (Sm.ext he129)
            refine RL.val rfl rfl (by decide) (r_eql (k := .u32) (a := (((val x) / 2 ^ i % 2 : Nat) : Int)) (b := 1) rfl rfl) ?_
            refine RL.nil ?_
            refine wcond (b := decide ((((val x) / 2 ^ i % 2 : Nat) : Int) = 1)) rfl (fun hb130 => ?_) (fun hb130 => ?_)
            · have hb130p := hb130
              replace hb130p := of_decide_eq_true hb130p
              refine wregion ?_
              refine RL.val rfl rfl (by decide) (r_move_as (v := vr122) (hF125 5)) ?_
              refine RL.run rfl rfl (by decide) (h_lit (vl := [(0, (.int .u32 (1)))]) (cs := [(.int .u32 (1))]) Try.underlying38 ty52 rfl (by decide) (by first | (simp [Instr.fill, Value.cells]; done) | rfl | kernel_rfl)) ?_
              rintro _ w131 ⟨b132, rfl, hs135, hb134, he133⟩
              have he133z := he133.size
              replace hx := hx.tr (Sm.ext he133)
              replace hE := Below.ext hE (by omega) he133
              replace hr4 := hr4.tr (Sm.ext he133)
              replace hb106 := hb106.ext he133
              replace hr5 := hr5.tr (Sm.ext he133)
              replace hr123 := hr123.tr (Sm.ext he133)
              have hb134l := hb134.lt
              refine RL.call rfl rfl (by decide) (r_call (vl := [vr122, (.slice (some ⟨b132, 0, none⟩) (1) (1))]) ent61 rfl) (r01_add hr123 (digs_lm _) (by first | omega | simp) (hb134.sg (g := gN .u32) (D := fun _ _ => True) (xs := [1]) trivial rfl rfl (by decide)) (by first | assumption | (intro z hz; simp at hz; omega)) (by first | omega | simp)) ?_
              rintro vr138 w136 ⟨hr139, he137⟩
              try rw [val_digs] at hr139
              have he137z := he137.size
              replace hx := hx.tr (Sm.ext he137)
              replace hE := Below.ext hE (by omega) he137
              replace hr4 := hr4.tr (Sm.ext he137)
              replace hb106 := hb106.ext he137
              replace hr5 := hr5.tr (Sm.ext he137)
              replace hr123 := hr123.tr (Sm.ext he137)
              replace hb134 := hb134.ext he137
              refine RL.val rfl rfl (by decide) (r_assign_as (v := vr138) rfl) ?_
              refine RL.nil ?_
              refine ⟨vr138, ?_, ?_, ?_, ?_, ?_, ?_, ?_, ?_⟩
              · exact (by repeat (first | exact hoff127 | refine Off.st ?_ (by decide) _ | refine Off.via hoff116 (by decide) ?_ | refine Off.eq hF112 ?_))
              · first | rfl | exact int_eq (by omega) | exact bool_eq (by simp)
              · exact hx
              · omega
              · exact hb106
              · exact hE
              · have h9 : (digs ((r + r) + (val ([1])))) = digs (r + r + val x / 2 ^ i % 2) := by first | rfl | (have h8 : val [1] = 1 := rfl; rw [h8]; congr 1; omega) | (congr 1; omega)
                rw [← h9]
                exact hr139.mono (fun b T h => by first | exact ⟨by have := h.1; omega, h.2⟩ | exact ⟨by have := h.1; omega, h.2.1⟩ | exact ⟨by have := h.1; omega, h.2, by have := h.1; omega⟩ | exact ⟨by have := h.1; omega, h.2.1, by have := h.1; omega⟩ | exact ⟨by have := h.1; omega, h.2.1, h.2.2⟩)
              · omega
            · have hb130p := hb130
              replace hb130p := of_decide_eq_false hb130p
              refine wskip ?_
              refine ⟨vr122, ?_, ?_, ?_, ?_, ?_, ?_, ?_, ?_⟩
              · exact (by repeat (first | exact hoff127 | refine Off.st ?_ (by decide) _ | refine Off.via hoff116 (by decide) ?_ | refine Off.eq hF112 ?_))
              · refine ((hF125 5)).trans ?_
                first | rfl | exact int_eq (by omega) | exact bool_eq (by simp)
              · exact hx
              · omega
              · exact hb106
              · exact hE
              · have h9 : (digs (r + r)) = digs (r + r + val x / 2 ^ i % 2) := by first | rfl | (have h8 : val [1] = 1 := rfl; rw [h8]; congr 1; omega) | (congr 1; omega)
                rw [← h9]
                exact hr123.mono (fun b T h => by first | exact ⟨by have := h.1; omega, h.2⟩ | exact ⟨by have := h.1; omega, h.2.1⟩ | exact ⟨by have := h.1; omega, h.2, by have := h.1; omega⟩ | exact ⟨by have := h.1; omega, h.2.1, by have := h.1; omega⟩ | exact ⟨by have := h.1; omega, h.2.1, h.2.2⟩)
              · omega
          · clear hx hE hr4 hb106 hr5 hr123
            rintro f140 w141 ⟨v6, hoff142, hs143, hx, hr4, hb106, hE, hr6, hz126⟩
            refine wseq ?_
            have hlr3 := len_mono (m := (r + r + val x / 2 ^ i % 2)) (n := val y + val y) (by omega)
            have hlr4 := len_add (val y) (val y)
            simp only [← len_digs] at hlr3 hlr4
            refine wregion ?_
            refine RL.val rfl rfl (by decide) (r_move_as (v := v6) hs143) ?_
            refine RL.val rfl rfl (by decide) (r_move_as (v := vr3) ((hoff142 1 rfl).trans ((hF125 1).trans ((hoff116 1 rfl).trans (hF112 1))))) ?_
            refine RL.call rfl rfl (by decide) (r_call (vl := [v6, vr3]) ent63 rfl) (r01_sub hr6 (digs_lm _) (by first | omega | simp) hr4 (digs_lm _) (by first | omega | simp)) ?_
            rintro vq148 w144 ⟨⟨vr146, hq149, hr147⟩, he145⟩
            simp only [val_digs] at hq149 hr147
            subst hq149
            have he145z := he145.size
            replace hx := hx.tr (Sm.ext he145)
            replace hE := Below.ext hE (by omega) he145
            replace hr4 := hr4.tr (Sm.ext he145)
            replace hb106 := hb106.ext he145
            replace hr6 := hr6.tr (Sm.ext he145)
            refine RL.val rfl rfl (by decide) (r_move_as (v := (.tuple #[vr146, (.bool (decide ((val y) ≤ (r + r + val x / 2 ^ i % 2))))])) rfl) ?_
            refine RL.val rfl rfl (by decide) (r_extract (v := vr146) rfl rfl) ?_
            refine RL.val rfl rfl (by decide) (r_extract (v := (.bool (decide ((val y) ≤ (r + r + val x / 2 ^ i % 2))))) rfl rfl) ?_
            refine RL.val rfl rfl (by decide) (r_assign_as (v := vr146) rfl) ?_
            refine RL.val rfl rfl (by decide) (r_assign_as (v := (.bool (decide ((val y) ≤ (r + r + val x / 2 ^ i % 2))))) rfl) ?_
            refine RL.nil ?_
            refine wseq ?_
            refine wregion ?_
            refine RL.val rfl rfl (by decide) (r_move_as (v := (.bool (decide ((val y) ≤ (r + r + val x / 2 ^ i % 2))))) rfl) ?_
            refine RL.nil ?_
            refine wcond (b := decide ((val y) ≤ (r + r + val x / 2 ^ i % 2))) rfl (fun hb150 => ?_) (fun hb150 => ?_)
            · have hb150p := hb150
              replace hb150p := of_decide_eq_true hb150p
              refine wseq ?_
              refine wregion ?_
              refine RL.val rfl rfl (by decide) (r_move_as (v := vr146) rfl) ?_
              refine RL.val rfl rfl (by decide) (r_assign_as (v := vr146) rfl) ?_
              refine RL.nil ?_
              have hsb := setbit (i := i) hOm (by omega) (by rw [hOv, hi]; exact Nat.mul_mod_left _ _)
              refine wregion ?_
              refine RL.val rfl rfl (by decide) (r_move_as (v := (.slice (some ⟨b104, 0, none⟩) (x.length) (x.length))) ((hoff142 4 rfl).trans ((hF125 4).trans ((hoff116 4 rfl).trans (hF112 4))))) ?_
              refine RL.val rfl rfl (by decide) (r_move_as (v := .int .i64 ((i : Nat) : Int)) (((hoff142 11 rfl).trans ((hF125 11).trans hs117)).trans (int_eq (by omega)))) ?_
              refine RL.val rfl rfl (by decide) (r_quo (k := .i64) (a := ((i : Nat) : Int)) (b := 32) (c := ((i / 32 : Nat) : Int)) rfl rfl (by decide) (quo32 (by omega))) ?_
              refine RL.val rfl rfl (by decide) (r_indexAddr (i := ((i / 32 : Nat) : Int)) Try.underlying38 ty52 rfl rfl (by omega) (by omega)) ?_
              have hc151 := hb106.cell (i := ((i / 32 : Nat) : Int)) (i / 32) (by omega) (by omega)
              refine RL.val rfl rfl (by decide) (r_load (v := (.int .u32 (((O.getD (i / 32) default : Nat) : Int)))) Try.underlying52 ag52 rfl hc151) ?_
              refine RL.val rfl rfl (by decide) (r_move_as (v := .int .i64 ((i : Nat) : Int)) (((hoff142 11 rfl).trans ((hF125 11).trans hs117)).trans (int_eq (by omega)))) ?_
              refine RL.val rfl rfl (by decide) (r_rem (k := .i64) (a := ((i : Nat) : Int)) (b := 32) (c := ((i % 32 : Nat) : Int)) rfl rfl (by decide) (rem32 _)) ?_
              refine RL.val rfl rfl (by decide) (r_conv (k := .u64) (a := ((i % 32 : Nat) : Int)) (c := ((i % 32 : Nat) : Int)) Try.underlying3 Try.underlying77 rfl (wu64 (by omega))) ?_
              refine RL.val rfl rfl (by decide) (r_shl (k := .u32) (a := 1) (b := ((i % 32 : Nat) : Int)) (c := ((2 ^ (i % 32) : Nat) : Int)) rfl rfl (by omega) (shl1 (by omega))) ?_
              refine RL.val rfl rfl (by decide) (r_or (k := .u32) (a := ((O.getD (i / 32) default : Nat) : Int)) (b := ((2 ^ (i % 32) : Nat) : Int)) (c := ((O.getD (i / 32) default ||| 2 ^ (i % 32) : Nat) : Int)) rfl rfl (orN (hOm.at (by omega)) (show 2 ^ (i % 32) < 2 ^ 32 from Nat.pow_lt_pow_right (by decide) (by omega)))) ?_
              refine RL.val rfl rfl (by decide) (r_indexAddr (i := ((i / 32 : Nat) : Int)) Try.underlying38 ty52 rfl rfl (by omega) (by omega)) ?_
              refine RL.runs rfl rfl (h_set (g := (gN .u32)) (vv := (.int .u32 (((O.getD (i / 32) default ||| 2 ^ (i % 32) : Nat) : Int)))) (u := O.getD (i / 32) default + 2 ^ (i % 32)) (i := ((i / 32 : Nat) : Int)) ty52 rfl rfl (int_eq (by rw [hsb.1])) rfl rfl hb106 (i / 32) (by omega) (by omega)) ?_
              rintro w152 ⟨ha153, hx154⟩
              have hx154z := hx154.size
              replace hx := hx.tr (hb106.sm hx154 (by (intro h; have := h.2; omega)))
              replace hE := Below.exc hE (by omega) hx154 (by omega)
              replace hr4 := hr4.tr (hb106.sm hx154 (by (intro h; have := h.2; omega)))
              replace hr6 := hr6.tr (hb106.sm hx154 (by (intro h; exact h.2.2 rfl)))
              replace hr147 := hr147.tr (hb106.sm hx154 (by intro hd; have hd2 := hd.1; omega))
              replace hb106 := ha153
              refine RL.nil ?_
              refine wregion ?_
              refine RL.val rfl rfl (by decide) (r_move_as (v := (.int .i64 (((j : Nat) : Int) - 1))) ((hoff142 11 rfl).trans ((hF125 11).trans hs117))) ?_
              refine RL.val rfl rfl (by decide) (r_sub (k := .i64) (a := ((j : Nat) : Int) - 1) (b := 1) (c := (((j : Nat) : Int) - 1) - 1) rfl rfl (wi64 (by omega))) ?_
              refine RL.val rfl rfl (by decide) (r_assign_as (v := (.int .i64 ((((j : Nat) : Int) - 1) - 1))) rfl) ?_
              refine RL.nil ?_
              refine ⟨(i, 2 * Qn + 1, (r + r + val x / 2 ^ i % 2) - val y, O.set (i / 32) (O.getD (i / 32) default + 2 ^ (i % 32)), vr146), ⟨?_, ?_, ?_, ?_, ?_, ?_, ?_, ?_, ?_, ?_, ?_, ?_, ?_, ?_, ?_⟩, ?_⟩
              · exact (by repeat (first | exact hoff116 | refine Off.st ?_ (by decide) _ | refine Off.via hoff142 (by decide) ?_ | refine Off.eq hF125 ?_))
              · first | rfl | exact int_eq (by omega) | exact bool_eq (by simp)
              · first | rfl | exact int_eq (by omega) | exact bool_eq (by simp)
              · omega
              · rw [hnx, Nat.add_mul, Nat.one_mul]; omega
              · omega
              · rw [List.length_set]; exact hOl
              · exact hOm.set hsb.2.1
              · rw [hsb.2.2, hOv, hi, dm_shift, Nat.add_mul, Nat.one_mul]
              · exact hx
              · exact hr4
              · exact hb106
              · exact hE
              · exact hr147.mono (fun b T h => by first | exact ⟨by have := h.1; omega, h.2⟩ | exact ⟨by have := h.1; omega, h.2.1⟩ | exact ⟨by have := h.1; omega, h.2, by have := h.1; omega⟩ | exact ⟨by have := h.1; omega, h.2.1, by have := h.1; omega⟩ | exact ⟨by have := h.1; omega, h.2.1, h.2.2⟩)
              · omega
              · (try dsimp only)
                omega
            · have hb150p := hb150
              replace hb150p := of_decide_eq_false hb150p
              refine wskip ?_
              refine wregion ?_
              refine RL.val rfl rfl (by decide) (r_move_as (v := (.int .i64 (((j : Nat) : Int) - 1))) ((hoff142 11 rfl).trans ((hF125 11).trans hs117))) ?_
              refine RL.val rfl rfl (by decide) (r_sub (k := .i64) (a := ((j : Nat) : Int) - 1) (b := 1) (c := (((j : Nat) : Int) - 1) - 1) rfl rfl (wi64 (by omega))) ?_
              refine RL.val rfl rfl (by decide) (r_assign_as (v := (.int .i64 ((((j : Nat) : Int) - 1) - 1))) rfl) ?_
              refine RL.nil ?_
              refine ⟨(i, 2 * Qn, (r + r + val x / 2 ^ i % 2), O, v6), ⟨?_, ?_, ?_, ?_, ?_, ?_, ?_, ?_, ?_, ?_, ?_, ?_, ?_, ?_, ?_⟩, ?_⟩
              · exact (by repeat (first | exact hoff116 | refine Off.st ?_ (by decide) _ | refine Off.via hoff142 (by decide) ?_ | refine Off.eq hF125 ?_))
              · first | rfl | exact int_eq (by omega) | exact bool_eq (by simp)
              · refine (hs143).trans ?_
                first | rfl | exact int_eq (by omega) | exact bool_eq (by simp)
              · omega
              · exact hnx
              · omega
              · exact hOl
              · exact hOm
              · rw [hOv, hi, dm_shift]
              · exact hx
              · exact hr4
              · exact hb106
              · exact hE
              · exact hr6.mono (fun b T h => by first | exact ⟨by have := h.1; omega, h.2⟩ | exact ⟨by have := h.1; omega, h.2.1⟩ | exact ⟨by have := h.1; omega, h.2, by have := h.1; omega⟩ | exact ⟨by have := h.1; omega, h.2.1, by have := h.1; omega⟩ | exact ⟨by have := h.1; omega, h.2.1, h.2.2⟩)
              · omega
              · (try dsimp only)
                omega
        · have hb119p := hb119
          replace hb119p := of_decide_eq_false hb119p
          refine wexit ?_
          refine wseq ?_
          have hj0 : j = 0 := by omega
          have hfin := div_fin (n := val x) (b := val y) (Qn := Qn) (r := r) (by rw [hj0, Nat.pow_zero, Nat.div_one] at hdiv; exact hdiv) hr
          have hOq : val O = Qn := by rw [hOv, hj0, Nat.pow_zero, Nat.mul_one]
          have hlr : (digs r).length ≤ (digs (val y)).length := len_mono (by omega)
          refine wregion ?_
          refine RL.val rfl rfl (by decide) (r_move_as (v := (.slice (some ⟨b104, 0, none⟩) (x.length) (x.length))) ((hoff116 4 rfl).trans (hF112 4))) ?_
          refine RL.call rfl rfl (by decide) (r_call (vl := [(.slice (some ⟨b104, 0, none⟩) (x.length) (x.length))]) ent58 rfl) (r01_trim (hb106.sc (D := fun _ _ => True) (Nat.le_refl _) (by omega) trivial) (by assumption) (by first | omega | simp)) ?_
          rintro vr157 w155 ⟨hr158, he156⟩
          have he156z := he156.size
          replace hx := hx.tr (Sm.ext he156)
          replace hE := Below.ext hE (by omega) he156
          replace hr4 := hr4.tr (Sm.ext he156)
          replace hb106 := hb106.ext he156
          replace hr5 := hr5.tr (Sm.ext he156)
          have hlt159 : (digs (val O)).length ≤ O.length := len_le_of (by assumption)
          refine RL.val rfl rfl (by decide) (r_move_as (v := v5) hs118) ?_
          refine RL.call rfl rfl (by decide) (r_call (vl := [v5]) ent58 rfl) (r01_trim hr5 (digs_lm _) (by first | omega | simp)) ?_
          rintro vr162 w160 ⟨hr163, he161⟩
          try rw [val_digs] at hr163
          have he161z := he161.size
          replace hx := hx.tr (Sm.ext he161)
          replace hE := Below.ext hE (by omega) he161
          replace hr4 := hr4.tr (Sm.ext he161)
          replace hb106 := hb106.ext he161
          replace hr5 := hr5.tr (Sm.ext he161)
          replace hr158 := hr158.tr (Sm.ext he161)
          refine RL.val rfl rfl (by decide) (r_assign_as (v := vr157) rfl) ?_
          refine RL.val rfl rfl (by decide) (r_assign_as (v := vr162) rfl) ?_
          refine RL.val rfl rfl (by decide) (r_assign_as (v := (.bool (true))) rfl) ?_
          refine RL.nil ?_
          refine wret ?_
          refine ⟨[vr157, vr162, (.bool (true))], ⟨rfl, ⟨rfl, ⟨rfl, trivial⟩⟩⟩, ?_⟩
          have h1 := hr158
          have h2 := hr163
          rw [hOq, hfin.1] at h1
          rw [hfin.2] at h2
          have hm : modZ (val x) (val y) = val x % val y := if_neg hy0
          exact ⟨⟨_, _, by rw [decide_eq_true hy0]; rfl, h1.mono (fun b T h => by first | exact ⟨by have := h.1; omega, h.2⟩ | exact ⟨by have := h.1; omega, h.2.1⟩ | exact ⟨by have := h.1; omega, h.2, by have := h.1; omega⟩ | exact ⟨by have := h.1; omega, h.2.1, by have := h.1; omega⟩ | exact ⟨by have := h.1; omega, h.2.1, h.2.2⟩), by rw [hm]; exact h2.mono (fun b T h => by first | exact ⟨by have := h.1; omega, h.2⟩ | exact ⟨by have := h.1; omega, h.2.1⟩ | exact ⟨by have := h.1; omega, h.2, by have := h.1; omega⟩ | exact ⟨by have := h.1; omega, h.2.1, by have := h.1; omega⟩ | exact ⟨by have := h.1; omega, h.2.1, h.2.2⟩)⟩, hE⟩

end Go.Proofs.Ytppgppnkhpjlpaa
