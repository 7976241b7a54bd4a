/- Walks, printed by program. -/
import Derived.Test.YtppgppnkhpjlpaaRf
namespace Go.Proofs.Ytppgppnkhpjlpaa
open Go.Vg Go.RowKit
set_option linter.unusedVariables false

open Go.Vm

theorem tup2 {a b : Int} {c : Bool} (h : a = b) : Value.tuple #[.int .i64 a, .bool c] = .tuple #[.int .i64 b, .bool c] := by rw [h]

set_option maxHeartbeats 1000000 in
theorem r02_sign {w : World} {sx : Bool} {Dx : Nat → TypeId → Prop} {vx : Value} {x : List Nat} (hx : Sg (gN .u32) Dx w vx x) (lmx : Lm x) (lnx : x.length ≤ 8796093022208) {zx : Int} (ex : sg sx (val x) = zx) :
    Calls Try.prog 40 #[(.agg #[(.bool (sx)), vx])] w fun e w' => ∃ v, e = .returned v ∧ v = .int .i64 (Int.sign zx) ∧ Ext w w' := by
  have hE : Below w.heap.size w w := Below.refl _ _
  have hlzx := il_le lmx ex
  refine calls_of (n := 13) (rs := [.tmp 2]) Try.func40 rfl rfl rfl (Nat.le_of_ble_eq_true rfl) ?_
  refine wset fun F0 hF0 => ?_
  refine wseq ?_
  refine wregion ?_
  refine RL.run rfl rfl (by decide) (h_box (vv := (.agg #[(.bool (sx)), vx])) (cs := [(.bool (sx)), vx]) (hF0 0) rfl) ?_
  rintro _ w1 ⟨b2, rfl, hs5, hb4, he3⟩
  have ge_b2 : w.heap.size ≤ b2 := by rw [hs5]; exact hE.size
  replace hE := Below.ext hE hE.size he3
  refine RL.val rfl rfl (by decide) (r_assign_as (v := (.int .i64 (0))) rfl) ?_
  refine RL.nil ?_
  refine wseq ?_
  refine wregion ?_
  have hc6 := hb4.cells (o := 0) (cs := [(.bool (sx)), vx]) rfl
  refine RL.val rfl rfl (by decide) (r_loada (o := 0) (cs := [(.bool (sx)), vx]) Try.underlying40 ag40 ty40 rfl hc6) ?_
  replace hx := hx.tr (Sm.ext he3)
  refine RL.call rfl rfl (by decide) (r_call (vl := [(.agg #[(.bool (sx)), vx])]) ent41 rfl) (r02_norm hx (by assumption) (by first | omega | simp) (show sg sx (val x) = zx from ex)) ?_
  rintro _ w7 ⟨⟨vr9, rfl, hr10, hl11⟩, he8⟩
  replace hr10 := hr10.mono (D' := fun b T => w.heap.size ≤ b ∧ T = 52) (fun b T h => ⟨Nat.le_trans hE.size h.1, h.2⟩)
  replace hE := Below.ext hE hE.size he8
  replace hb4 := hb4.ext he8
  refine RL.runs rfl rfl (h_store (vv := (.agg #[(.bool (decide (zx < 0))), vr9])) (cs := [(.bool (decide (zx < 0))), vr9]) (o := 0) ty40 rfl rfl rfl rfl (one_cons rfl (one_cons hr10.one one_nil)) hb4 (Nat.le_of_ble_eq_true rfl)) ?_
  rintro w12 ⟨hn13, hx14, hz15⟩
  replace hE := Below.exc hE hE.size hx14 ge_b2
  have nb_hx14 := (Nb.of hb4 (nu_cons rfl (nu_cons hx.nu nu_nil)))
  replace hb4 : Bk w12 b2 40 [(.bool (decide (zx < 0))), vr9] := hn13
  refine RL.nil ?_
  refine wseq ?_
  refine wblock ?_
  refine wseq ?_
  refine wregion ?_
  refine RL.val rfl rfl (by decide) (r_fieldAddr Try.underlying40 rfl ty4 rfl) ?_
  have hc16 := hb4.cell (j := 0) (u := (.bool (decide (zx < 0)))) rfl
  refine RL.val rfl rfl (by decide) (r_load (v := (.bool (decide (zx < 0)))) Try.underlying4 ag4 rfl hc16) ?_
  refine RL.val rfl rfl (by decide) (r_assign_as (v := (.bool (decide (zx < 0)))) rfl) ?_
  refine RL.nil ?_
  refine wcond (b := decide (zx < 0)) rfl (fun hb17 => ?_) (fun hb17 => ?_)
  · have hb17p := hb17
    replace hb17p := of_decide_eq_true hb17p
    have hz := hb17p
    refine wseq ?_
    refine wregion ?_
    refine RL.val rfl rfl (by decide) (r_assign_as (v := (.int .i64 (-1))) rfl) ?_
    refine RL.nil ?_
    refine wret ?_
    refine ⟨[(.int .i64 (-1))], ⟨rfl, trivial⟩, ?_⟩
    exact ⟨int_eq (Int.sign_eq_neg_one_of_neg hz).symm, hE⟩
  · have hb17p := hb17
    replace hb17p := of_decide_eq_false hb17p
    have hz := hb17p
    refine wseq ?_
    refine wregion ?_
    refine RL.val rfl rfl (by decide) (r_fieldAddr Try.underlying40 rfl ty38 rfl) ?_
    have hc18 := hb4.cell (j := 1) (u := vr9) rfl
    refine RL.val rfl rfl (by decide) (r_load (v := vr9) Try.underlying38 ag38 rfl hc18) ?_
    obtain ⟨A19, c20, hv21, hc22, hc23⟩ := hr10.len
    refine RL.val rfl rfl (by decide) (r_len Try.underlying38 hv21) ?_
    refine RL.val rfl rfl (by decide) (r_eql (k := .i64) (a := (((digs zx.natAbs).length : Nat) : Int)) (b := 0) rfl rfl) ?_
    refine RL.val rfl rfl (by decide) (r_assign_as (v := (.bool (decide ((((digs zx.natAbs).length : Nat) : Int) = 0)))) rfl) ?_
    refine RL.nil ?_
    refine wcond (b := decide ((((digs zx.natAbs).length : Nat) : Int) = 0)) rfl (fun hb24 => ?_) (fun hb24 => ?_)
    · have hb24p := hb24
      replace hb24p := of_decide_eq_true hb24p
      have hz0 : zx.natAbs = 0 := len_zero.1 (by unfold len; omega)
      refine wseq ?_
      refine wregion ?_
      refine RL.val rfl rfl (by decide) (r_assign_as (v := (.int .i64 (0))) rfl) ?_
      refine RL.nil ?_
      refine wret ?_
      refine ⟨[(.int .i64 (0))], ⟨rfl, trivial⟩, ?_⟩
      exact ⟨int_eq (Int.sign_eq_zero_iff_zero.2 (by omega)).symm, hE⟩
    · have hb24p := hb24
      replace hb24p := of_decide_eq_false hb24p
      have hz0 : zx.natAbs ≠ 0 := fun h => by have := len_zero.2 h; unfold len at this; omega
      refine wskip ?_
      refine wseq ?_
      refine wregion ?_
      refine RL.val rfl rfl (by decide) (r_assign_as (v := (.int .i64 (1))) rfl) ?_
      refine RL.nil ?_
      refine wret ?_
      refine ⟨[(.int .i64 (1))], ⟨rfl, trivial⟩, ?_⟩
      exact ⟨int_eq (Int.sign_eq_one_of_pos (by omega)).symm, hE⟩

set_option maxHeartbeats 1000000 in
theorem r02_from {w : World} {k : Int} (hk : -9223372036854775808 ≤ k ∧ k ≤ 9223372036854775807) :
    Calls Try.prog 26 #[(.int .i64 (k))] w fun e w' => ∃ v, e = .returned v ∧ (∃ vr, v = .agg #[.bool (decide (k < 0)), vr] ∧ Sg (gN .u32) (fun b T => w.heap.size ≤ b ∧ T = 52) w' vr (digs k.natAbs) ∧ (digs k.natAbs).length ≤ 2) ∧ Ext w w' := by
  have hE : Below w.heap.size w w := Below.refl _ _
  refine calls_of (n := 16) (rs := [.cell 2 40]) Try.func26 rfl rfl rfl (Nat.le_of_ble_eq_true rfl) ?_
  refine wset fun F0 hF0 => ?_
  refine wseq ?_
  refine wregion ?_
  refine RL.run rfl rfl (by decide) (h_alloc (cs := [(.bool false), (.slice none 0 0)]) ty40 rfl) ?_
  rintro _ w1 ⟨b2, rfl, hs5, hb4, he3⟩
  have ge_b2 : w.heap.size ≤ b2 := by rw [hs5]; exact hE.size
  replace hE := Below.ext hE hE.size he3
  refine RL.nil ?_
  refine wseq ?_
  refine wseq ?_
  refine wregion ?_
  refine RL.val rfl rfl (by decide) (r_move_as (v := (.int .i64 (k))) (hF0 0)) ?_
  refine RL.val rfl rfl (by decide) (r_lss (k := .i64) (a := k) (b := 0) rfl rfl) ?_
  refine RL.nil ?_
  refine wcond (b := decide (k < 0)) rfl (fun hb6 => ?_) (fun hb6 => ?_)
  · have hb6p := hb6
    replace hb6p := of_decide_eq_true hb6p
    refine wseq ?_
    refine wregion ?_
    refine RL.val rfl rfl (by decide) (r_move_as (v := (.int .i64 (k))) (hF0 0)) ?_
    refine RL.val rfl rfl (by decide) (r_add (k := .i64) (a := k) (b := 1) (c := k + 1) rfl rfl (wi64 (by omega))) ?_
    refine RL.val rfl rfl (by decide) (r_neg (k := .i64) (a := k + 1) (c := -(k + 1)) rfl ((wi64 (by omega)).trans (by omega))) ?_
    refine RL.val rfl rfl (by decide) (r_conv (k := .u64) (a := -(k + 1)) (c := (((-(k + 1)).toNat : Nat) : Int)) Try.underlying3 Try.underlying33 rfl ((wu64 (by omega)).trans (by omega))) ?_
    refine RL.val rfl rfl (by decide) (r_add (k := .u64) (a := (((-(k + 1)).toNat : Nat) : Int)) (b := 1) (c := (((-k).toNat : Nat) : Int)) rfl rfl ((wu64 (by omega)).trans (by omega))) ?_
    refine RL.call rfl rfl (by decide) (r_call (vl := [(.int .u64 ((((-k).toNat : Nat) : Int)))]) ent47 rfl) (r01_from (by omega)) ?_
    rintro vr9 w7 ⟨hr10, he8⟩
    replace hr10 := hr10.mono (D' := fun b T => w.heap.size ≤ b ∧ T = 52) (fun b T h => ⟨Nat.le_trans hE.size h.1, h.2⟩)
    replace hE := Below.ext hE hE.size he8
    have hlv11 := dl_u64 (n := (-k).toNat) (by omega)
    refine RL.call rfl rfl (by decide) (r_call (vl := [(.bool (true)), vr9]) ent46 rfl) (r02_make hr10 (digs_lm _) (by first | omega | simp) (show sg true (val (digs ((-k).toNat))) = k from (by rw [val_digs, sg_t]; omega))) ?_
    rintro _ w12 ⟨⟨vr14, rfl, hr15, hl16⟩, he13⟩
    replace hr15 := hr15.mono (D' := fun b T => w.heap.size ≤ b ∧ T = 52) (fun b T h => ⟨Nat.le_trans hE.size h.1, h.2⟩)
    replace hE := Below.ext hE hE.size he13
    replace hb4 := hb4.ext (Ext.trans he8 he13)
    refine RL.runs rfl rfl (h_store (vv := (.agg #[(.bool (decide (k < 0))), vr14])) (cs := [(.bool (decide (k < 0))), vr14]) (o := 0) ty40 rfl rfl rfl rfl (one_cons rfl (one_cons hr15.one one_nil)) hb4 (Nat.le_of_ble_eq_true rfl)) ?_
    rintro w17 ⟨hn18, hx19, hz20⟩
    replace hE := Below.exc hE hE.size hx19 ge_b2
    have nb_hx19 := (Nb.of hb4 (nu_cons rfl (nu_cons rfl nu_nil)))
    replace hb4 : Bk w17 b2 40 [(.bool (decide (k < 0))), vr14] := hn18
    refine RL.nil ?_
    refine wret ?_
    refine ⟨[(.agg #[(.bool (decide (k < 0))), vr14])], ⟨⟨_, _, [(.bool (decide (k < 0))), vr14], rfl, ⟨_, Try.underlying40⟩, hb4.cells rfl, .inl ⟨ag40, ⟨_, _, ty40⟩, rfl⟩⟩, trivial⟩, ?_⟩
    replace hr15 := hr15.apn hx19 nb_hx19
    exact ⟨⟨_, rfl, hr15, (by omega)⟩, hE⟩
  · have hb6p := hb6
    replace hb6p := of_decide_eq_false hb6p
    refine wskip ?_
    refine wseq ?_
    refine wregion ?_
    refine RL.val rfl rfl (by decide) (r_move_as (v := (.int .i64 (k))) (hF0 0)) ?_
    refine RL.val rfl rfl (by decide) (r_conv (k := .u64) (a := k) (c := ((k.toNat : Nat) : Int)) Try.underlying3 Try.underlying33 rfl ((wu64 (by omega)).trans (by omega))) ?_
    refine RL.call rfl rfl (by decide) (r_call (vl := [(.int .u64 (((k.toNat : Nat) : Int)))]) ent47 rfl) (r01_from (by omega)) ?_
    rintro vr23 w21 ⟨hr24, he22⟩
    replace hr24 := hr24.mono (D' := fun b T => w.heap.size ≤ b ∧ T = 52) (fun b T h => ⟨Nat.le_trans hE.size h.1, h.2⟩)
    replace hE := Below.ext hE hE.size he22
    have hlv25 := dl_u64 (n := k.toNat) (by omega)
    refine RL.call rfl rfl (by decide) (r_call (vl := [(.bool (false)), vr23]) ent46 rfl) (r02_make hr24 (digs_lm _) (by first | omega | simp) (show sg false (val (digs k.toNat)) = k from (by rw [val_digs, sg_f]; omega))) ?_
    rintro _ w26 ⟨⟨vr28, rfl, hr29, hl30⟩, he27⟩
    replace hr29 := hr29.mono (D' := fun b T => w.heap.size ≤ b ∧ T = 52) (fun b T h => ⟨Nat.le_trans hE.size h.1, h.2⟩)
    replace hE := Below.ext hE hE.size he27
    replace hb4 := hb4.ext (Ext.trans he22 he27)
    refine RL.runs rfl rfl (h_store (vv := (.agg #[(.bool (decide (k < 0))), vr28])) (cs := [(.bool (decide (k < 0))), vr28]) (o := 0) ty40 rfl rfl rfl rfl (one_cons rfl (one_cons hr29.one one_nil)) hb4 (Nat.le_of_ble_eq_true rfl)) ?_
    rintro w31 ⟨hn32, hx33, hz34⟩
    replace hE := Below.exc hE hE.size hx33 ge_b2
    have nb_hx33 := (Nb.of hb4 (nu_cons rfl (nu_cons rfl nu_nil)))
    replace hb4 : Bk w31 b2 40 [(.bool (decide (k < 0))), vr28] := hn32
    refine RL.nil ?_
    refine wret ?_
    refine ⟨[(.agg #[(.bool (decide (k < 0))), vr28])], ⟨⟨_, _, [(.bool (decide (k < 0))), vr28], rfl, ⟨_, Try.underlying40⟩, hb4.cells rfl, .inl ⟨ag40, ⟨_, _, ty40⟩, rfl⟩⟩, trivial⟩, ?_⟩
    replace hr29 := hr29.apn hx33 nb_hx33
    exact ⟨⟨_, rfl, hr29, (by omega)⟩, hE⟩

set_option maxHeartbeats 1000000 in
theorem r02_value {w : World} {sx : Bool} {Dx : Nat → TypeId → Prop} {vx : Value} {x : List Nat} (hx : Sg (gN .u32) Dx w vx x) (lmx : Lm x) (lnx : x.length ≤ 274877906944) {zx : Int} (ex : sg sx (val x) = zx) :
    Calls Try.prog 30 #[(.agg #[(.bool (sx)), vx])] w fun e w' => ∃ v, e = .returned v ∧ v = .tuple #[.int .i64 (if (-9223372036854775808 ≤ zx ∧ zx ≤ 9223372036854775807) then zx else 0), .bool (decide (-9223372036854775808 ≤ zx ∧ zx ≤ 9223372036854775807))] ∧ Ext w w' := by
  have hE : Below w.heap.size w w := Below.refl _ _
  have hlzx := il_le lmx ex
  refine calls_of (n := 39) (rs := [.tmp 2, .tmp 3]) Try.func30 rfl rfl rfl (Nat.le_of_ble_eq_true rfl) ?_
  refine wset fun F0 hF0 => ?_
  refine wseq ?_
  refine wregion ?_
  refine RL.run rfl rfl (by decide) (h_box (vv := (.agg #[(.bool (sx)), vx])) (cs := [(.bool (sx)), vx]) (hF0 0) rfl) ?_
  rintro _ w1 ⟨b2, rfl, hs5, hb4, he3⟩
  have ge_b2 : w.heap.size ≤ b2 := by rw [hs5]; exact hE.size
  replace hE := Below.ext hE hE.size he3
  refine RL.val rfl rfl (by decide) (r_assign_as (v := (.int .i64 (0))) rfl) ?_
  refine RL.val rfl rfl (by decide) (r_assign_as (v := (.bool (false))) rfl) ?_
  refine RL.nil ?_
  refine wseq ?_
  refine wregion ?_
  have hc6 := hb4.cells (o := 0) (cs := [(.bool (sx)), vx]) rfl
  refine RL.val rfl rfl (by decide) (r_loada (o := 0) (cs := [(.bool (sx)), vx]) Try.underlying40 ag40 ty40 rfl hc6) ?_
  replace hx := hx.tr (Sm.ext he3)
  refine RL.call rfl rfl (by decide) (r_call (vl := [(.agg #[(.bool (sx)), vx])]) ent41 rfl) (r02_norm hx (by assumption) (by first | omega | simp) (show sg sx (val x) = zx from ex)) ?_
  rintro _ w7 ⟨⟨vr9, rfl, hr10, hl11⟩, he8⟩
  replace hr10 := hr10.mono (D' := fun b T => w.heap.size ≤ b ∧ T = 52) (fun b T h => ⟨Nat.le_trans hE.size h.1, h.2⟩)
  replace hE := Below.ext hE hE.size he8
  replace hb4 := hb4.ext he8
  refine RL.runs rfl rfl (h_store (vv := (.agg #[(.bool (decide (zx < 0))), vr9])) (cs := [(.bool (decide (zx < 0))), vr9]) (o := 0) ty40 rfl rfl rfl rfl (one_cons rfl (one_cons hr10.one one_nil)) hb4 (Nat.le_of_ble_eq_true rfl)) ?_
  rintro w12 ⟨hn13, hx14, hz15⟩
  replace hE := Below.exc hE hE.size hx14 ge_b2
  have nb_hx14 := (Nb.of hb4 (nu_cons rfl (nu_cons hx.nu nu_nil)))
  replace hb4 : Bk w12 b2 40 [(.bool (decide (zx < 0))), vr9] := hn13
  refine RL.nil ?_
  refine wseq ?_
  refine wregion ?_
  refine RL.val rfl rfl (by decide) (r_fieldAddr Try.underlying40 rfl ty38 rfl) ?_
  have hc16 := hb4.cell (j := 1) (u := vr9) rfl
  refine RL.val rfl rfl (by decide) (r_load (v := vr9) Try.underlying38 ag38 rfl hc16) ?_
  replace hr10 := hr10.apn hx14 nb_hx14
  refine RL.call rfl rfl (by decide) (r_call (vl := [vr9]) ent50 rfl) (r01_uint hr10 (digs_lm _) (by first | omega | simp)) ?_
  rintro vq19 w17 ⟨hq20, he18⟩
  simp only [val_digs] at hq20
  subst hq20
  replace hE := Below.ext hE hE.size he18
  refine RL.val rfl rfl (by decide) (r_move_as (v := (.tuple #[(.int .u64 (((if zx.natAbs < 18446744073709551616 then zx.natAbs else 0 : Nat) : Int))), (.bool (decide (zx.natAbs < 18446744073709551616)))])) rfl) ?_
  refine RL.val rfl rfl (by decide) (r_extract (v := (.int .u64 (((if zx.natAbs < 18446744073709551616 then zx.natAbs else 0 : Nat) : Int)))) rfl rfl) ?_
  refine RL.val rfl rfl (by decide) (r_extract (v := (.bool (decide (zx.natAbs < 18446744073709551616)))) rfl rfl) ?_
  refine RL.val rfl rfl (by decide) (r_assign_as (v := (.int .u64 (((if zx.natAbs < 18446744073709551616 then zx.natAbs else 0 : Nat) : Int)))) rfl) ?_
  refine RL.val rfl rfl (by decide) (r_assign_as (v := (.bool (decide (zx.natAbs < 18446744073709551616)))) rfl) ?_
  refine RL.nil ?_
  refine wseq ?_
  refine wblock ?_
  refine wseq ?_
  refine wregion ?_
  refine RL.val rfl rfl (by decide) (r_move_as (v := (.bool (decide (zx.natAbs < 18446744073709551616)))) rfl) ?_
  refine RL.val rfl rfl (by decide) (r_not rfl) ?_
  refine RL.val rfl rfl (by decide) (r_assign_as (v := (.bool (!(decide (zx.natAbs < 18446744073709551616))))) rfl) ?_
  refine RL.nil ?_
  refine wcond (b := !(decide (zx.natAbs < 18446744073709551616))) rfl (fun hb21 => ?_) (fun hb21 => ?_)
  · have hb21p := hb21
    have hu : ¬ zx.natAbs < 18446744073709551616 := by simpa using hb21
    refine wseq ?_
    refine wregion ?_
    refine RL.val rfl rfl (by decide) (r_assign_as (v := (.int .i64 (0))) rfl) ?_
    refine RL.val rfl rfl (by decide) (r_assign_as (v := (.bool (false))) rfl) ?_
    refine RL.nil ?_
    refine wret ?_
    refine ⟨[(.int .i64 (0)), (.bool (false))], ⟨rfl, ⟨rfl, trivial⟩⟩, ?_⟩
    exact ⟨by rw [if_neg (by omega), decide_eq_false (by omega)]; rfl, hE⟩
  · have hb21p := hb21
    have hu : zx.natAbs < 18446744073709551616 := by simpa using hb21
    refine wseq ?_
    refine wregion ?_
    refine RL.val rfl rfl (by decide) (r_fieldAddr Try.underlying40 rfl ty4 rfl) ?_
    replace hb4 := hb4.ext he18
    have hc22 := hb4.cell (j := 0) (u := (.bool (decide (zx < 0)))) rfl
    refine RL.val rfl rfl (by decide) (r_load (v := (.bool (decide (zx < 0)))) Try.underlying4 ag4 rfl hc22) ?_
    refine RL.val rfl rfl (by decide) (r_move_as (v := (.bool (decide (zx < 0)))) rfl) ?_
    rcases Bool.eq_false_or_eq_true (decide (zx < 0)) with hb23 | hb23
    · have hb23p := hb23
      replace hb23p := of_decide_eq_true hb23p
      have hz : zx < 0 := hb23p
      refine RL.gval rfl rfl (bool_eq hb23) rfl (by decide) (r_move_as (v := (.int .u64 (((if zx.natAbs < 18446744073709551616 then zx.natAbs else 0 : Nat) : Int)))) rfl) ?_
      refine RL.gval rfl rfl (bool_eq hb23) rfl (by decide) (r_leq (k := .u64) (a := ((if zx.natAbs < 18446744073709551616 then zx.natAbs else 0 : Nat) : Int)) (b := 9223372036854775808) rfl rfl) ?_
      refine RL.val rfl rfl (by decide) (r_pick_t (v := (.bool (decide (((if zx.natAbs < 18446744073709551616 then zx.natAbs else 0 : Nat) : Int) ≤ 9223372036854775808)))) (bool_eq hb23) rfl) ?_
      refine RL.val rfl rfl (by decide) (r_assign_as (v := (.bool (decide (((if zx.natAbs < 18446744073709551616 then zx.natAbs else 0 : Nat) : Int) ≤ 9223372036854775808)))) rfl) ?_
      refine RL.nil ?_
      refine wcond (b := decide (((if zx.natAbs < 18446744073709551616 then zx.natAbs else 0 : Nat) : Int) ≤ 9223372036854775808)) rfl (fun hb24 => ?_) (fun hb24 => ?_)
      · have hb24p := hb24
        replace hb24p := of_decide_eq_true hb24p
        have hc := hb24p
        rw [if_pos hu] at hc
        refine wseq ?_
        refine wregion ?_
        refine RL.val rfl rfl (by decide) (r_move_as (v := (.int .u64 (((if zx.natAbs < 18446744073709551616 then zx.natAbs else 0 : Nat) : Int)))) rfl) ?_
        refine RL.val rfl rfl (by decide) (r_sub (k := .u64) (a := ((if zx.natAbs < 18446744073709551616 then zx.natAbs else 0 : Nat) : Int)) (b := 1) (c := ((zx.natAbs - 1 : Nat) : Int)) rfl rfl (by rw [if_pos hu]; exact (wu64 (by omega)).trans (by omega))) ?_
        refine RL.val rfl rfl (by decide) (r_conv (k := .i64) (a := ((zx.natAbs - 1 : Nat) : Int)) (c := ((zx.natAbs - 1 : Nat) : Int)) Try.underlying33 Try.underlying3 rfl (wi64 (by omega))) ?_
        refine RL.val rfl rfl (by decide) (r_neg (k := .i64) (a := ((zx.natAbs - 1 : Nat) : Int)) (c := -((zx.natAbs - 1 : Nat) : Int)) rfl ((wi64 (by omega)).trans (by omega))) ?_
        refine RL.val rfl rfl (by decide) (r_sub (k := .i64) (a := -((zx.natAbs - 1 : Nat) : Int)) (b := 1) (c := (-((zx.natAbs - 1 : Nat) : Int)) - 1) rfl rfl (wi64 (by omega))) ?_
        refine RL.val rfl rfl (by decide) (r_assign_as (v := (.int .i64 ((-((zx.natAbs - 1 : Nat) : Int)) - 1))) rfl) ?_
        refine RL.val rfl rfl (by decide) (r_assign_as (v := (.bool (true))) rfl) ?_
        refine RL.nil ?_
        refine wret ?_
        refine ⟨[(.int .i64 ((-((zx.natAbs - 1 : Nat) : Int)) - 1)), (.bool (true))], ⟨rfl, ⟨rfl, trivial⟩⟩, ?_⟩
        exact ⟨(by rw [if_pos (by omega), decide_eq_true (by omega)]; exact tup2 (by omega)), hE⟩
      · have hb24p := hb24
        replace hb24p := of_decide_eq_false hb24p
        have hc := hb24p
        rw [if_pos hu] at hc
        refine wseq ?_
        refine wregion ?_
        refine RL.val rfl rfl (by decide) (r_fieldAddr Try.underlying40 rfl ty4 rfl) ?_
        have hc25 := hb4.cell (j := 0) (u := (.bool (decide (zx < 0)))) rfl
        refine RL.val rfl rfl (by decide) (r_load (v := (.bool (decide (zx < 0)))) Try.underlying4 ag4 rfl hc25) ?_
        refine RL.val rfl rfl (by decide) (r_not rfl) ?_
        refine RL.val rfl rfl (by decide) (r_move_as (v := (.bool (!(decide (zx < 0))))) rfl) ?_
        rcases Bool.eq_false_or_eq_true (!(decide (zx < 0))) with hb26 | hb26
        · have hb26p := hb26
          have hz3 : ¬ zx < 0 := by simpa using hb26
          refine RL.gval rfl rfl (bool_eq hb26) rfl (by decide) (r_move_as (v := (.int .u64 (((if zx.natAbs < 18446744073709551616 then zx.natAbs else 0 : Nat) : Int)))) rfl) ?_
          refine RL.gval rfl rfl (bool_eq hb26) rfl (by decide) (r_lss (k := .u64) (a := ((if zx.natAbs < 18446744073709551616 then zx.natAbs else 0 : Nat) : Int)) (b := 9223372036854775808) rfl rfl) ?_
          refine RL.val rfl rfl (by decide) (r_pick_t (v := (.bool (decide (((if zx.natAbs < 18446744073709551616 then zx.natAbs else 0 : Nat) : Int) < 9223372036854775808)))) (bool_eq hb26) rfl) ?_
          refine RL.val rfl rfl (by decide) (r_assign_as (v := (.bool (decide (((if zx.natAbs < 18446744073709551616 then zx.natAbs else 0 : Nat) : Int) < 9223372036854775808)))) rfl) ?_
          refine RL.nil ?_
          refine wcond (b := decide (((if zx.natAbs < 18446744073709551616 then zx.natAbs else 0 : Nat) : Int) < 9223372036854775808)) rfl (fun hb27 => ?_) (fun hb27 => ?_)
          · have hb27p := hb27
            replace hb27p := of_decide_eq_true hb27p
            have hc := hb27p
            rw [if_pos hu] at hc
            refine wseq ?_
            refine wregion ?_
            refine RL.val rfl rfl (by decide) (r_move_as (v := (.int .u64 (((if zx.natAbs < 18446744073709551616 then zx.natAbs else 0 : Nat) : Int)))) rfl) ?_
            refine RL.val rfl rfl (by decide) (r_conv (k := .i64) (a := ((if zx.natAbs < 18446744073709551616 then zx.natAbs else 0 : Nat) : Int)) (c := zx) Try.underlying33 Try.underlying3 rfl (by rw [if_pos hu]; exact (wi64 (by omega)).trans (by omega))) ?_
            refine RL.val rfl rfl (by decide) (r_assign_as (v := (.int .i64 (zx))) rfl) ?_
            refine RL.val rfl rfl (by decide) (r_assign_as (v := (.bool (true))) rfl) ?_
            refine RL.nil ?_
            refine wret ?_
            refine ⟨[(.int .i64 (zx)), (.bool (true))], ⟨rfl, ⟨rfl, trivial⟩⟩, ?_⟩
            exact ⟨(by rw [if_pos (by omega), decide_eq_true (by omega)]; exact tup2 (by omega)), hE⟩
          · have hb27p := hb27
            replace hb27p := of_decide_eq_false hb27p
            have hc := hb27p
            rw [if_pos hu] at hc
            refine wskip ?_
            refine wseq ?_
            refine wregion ?_
            refine RL.val rfl rfl (by decide) (r_assign_as (v := (.int .i64 (0))) rfl) ?_
            refine RL.val rfl rfl (by decide) (r_assign_as (v := (.bool (false))) rfl) ?_
            refine RL.nil ?_
            refine wret ?_
            refine ⟨[(.int .i64 (0)), (.bool (false))], ⟨rfl, ⟨rfl, trivial⟩⟩, ?_⟩
            exact ⟨by rw [if_neg (by omega), decide_eq_false (by omega)]; rfl, hE⟩
        · have hb26p := hb26
          have hz3 : zx < 0 := by simpa using hb26
          refine RL.gno rfl rfl (bool_eq hb26) rfl (by decide) ?_
          refine RL.gno rfl rfl (bool_eq hb26) rfl (by decide) ?_
          refine RL.val rfl rfl (by decide) (r_pick_f (v := (.bool (false))) (bool_eq hb26) rfl) ?_
          refine RL.val rfl rfl (by decide) (r_assign_as (v := (.bool (false))) rfl) ?_
          refine RL.nil ?_
          refine wcond_f rfl ?_
          refine wskip ?_
          refine wseq ?_
          refine wregion ?_
          refine RL.val rfl rfl (by decide) (r_assign_as (v := (.int .i64 (0))) rfl) ?_
          refine RL.val rfl rfl (by decide) (r_assign_as (v := (.bool (false))) rfl) ?_
          refine RL.nil ?_
          refine wret ?_
          refine ⟨[(.int .i64 (0)), (.bool (false))], ⟨rfl, ⟨rfl, trivial⟩⟩, ?_⟩
          exact ⟨by rw [if_neg (by omega), decide_eq_false (by omega)]; rfl, hE⟩
    · have hb23p := hb23
      replace hb23p := of_decide_eq_false hb23p
      have hz : ¬ zx < 0 := hb23p
      refine RL.gno rfl rfl (bool_eq hb23) rfl (by decide) ?_
      refine RL.gno rfl rfl (bool_eq hb23) rfl (by decide) ?_
      refine RL.val rfl rfl (by decide) (r_pick_f (v := (.bool (false))) (bool_eq hb23) rfl) ?_
      refine RL.val rfl rfl (by decide) (r_assign_as (v := (.bool (false))) rfl) ?_
      refine RL.nil ?_
      refine wcond_f rfl ?_
      refine wseq ?_
      refine wregion ?_
      refine RL.val rfl rfl (by decide) (r_fieldAddr Try.underlying40 rfl ty4 rfl) ?_
      have hc28 := hb4.cell (j := 0) (u := (.bool (decide (zx < 0)))) rfl
      refine RL.val rfl rfl (by decide) (r_load (v := (.bool (decide (zx < 0)))) Try.underlying4 ag4 rfl hc28) ?_
      refine RL.val rfl rfl (by decide) (r_not rfl) ?_
      refine RL.val rfl rfl (by decide) (r_move_as (v := (.bool (!(decide (zx < 0))))) rfl) ?_
      rcases Bool.eq_false_or_eq_true (!(decide (zx < 0))) with hb29 | hb29
      · have hb29p := hb29
        have hz3 : ¬ zx < 0 := by simpa using hb29
        refine RL.gval rfl rfl (bool_eq hb29) rfl (by decide) (r_move_as (v := (.int .u64 (((if zx.natAbs < 18446744073709551616 then zx.natAbs else 0 : Nat) : Int)))) rfl) ?_
        refine RL.gval rfl rfl (bool_eq hb29) rfl (by decide) (r_lss (k := .u64) (a := ((if zx.natAbs < 18446744073709551616 then zx.natAbs else 0 : Nat) : Int)) (b := 9223372036854775808) rfl rfl) ?_
        refine RL.val rfl rfl (by decide) (r_pick_t (v := (.bool (decide (((if zx.natAbs < 18446744073709551616 then zx.natAbs else 0 : Nat) : Int) < 9223372036854775808)))) (bool_eq hb29) rfl) ?_
        refine RL.val rfl rfl (by decide) (r_assign_as (v := (.bool (decide (((if zx.natAbs < 18446744073709551616 then zx.natAbs else 0 : Nat) : Int) < 9223372036854775808)))) rfl) ?_
        refine RL.nil ?_
        refine wcond (b := decide (((if zx.natAbs < 18446744073709551616 then zx.natAbs else 0 : Nat) : Int) < 9223372036854775808)) rfl (fun hb30 => ?_) (fun hb30 => ?_)
        · have hb30p := hb30
          replace hb30p := of_decide_eq_true hb30p
          have hc := hb30p
          rw [if_pos hu] at hc
          refine wseq ?_
          refine wregion ?_
          refine RL.val rfl rfl (by decide) (r_move_as (v := (.int .u64 (((if zx.natAbs < 18446744073709551616 then zx.natAbs else 0 : Nat) : Int)))) rfl) ?_
          refine RL.val rfl rfl (by decide) (r_conv (k := .i64) (a := ((if zx.natAbs < 18446744073709551616 then zx.natAbs else 0 : Nat) : Int)) (c := zx) Try.underlying33 Try.underlying3 rfl (by rw [if_pos hu]; exact (wi64 (by omega)).trans (by omega))) ?_
          refine RL.val rfl rfl (by decide) (r_assign_as (v := (.int .i64 (zx))) rfl) ?_
          refine RL.val rfl rfl (by decide) (r_assign_as (v := (.bool (true))) rfl) ?_
          refine RL.nil ?_
          refine wret ?_
          refine ⟨[(.int .i64 (zx)), (.bool (true))], ⟨rfl, ⟨rfl, trivial⟩⟩, ?_⟩
          exact ⟨(by rw [if_pos (by omega), decide_eq_true (by omega)]; exact tup2 (by omega)), hE⟩
        · have hb30p := hb30
          replace hb30p := of_decide_eq_false hb30p
          have hc := hb30p
          rw [if_pos hu] at hc
          refine wskip ?_
          refine wseq ?_
          refine wregion ?_
          refine RL.val rfl rfl (by decide) (r_assign_as (v := (.int .i64 (0))) rfl) ?_
          refine RL.val rfl rfl (by decide) (r_assign_as (v := (.bool (false))) rfl) ?_
          refine RL.nil ?_
          refine wret ?_
          refine ⟨[(.int .i64 (0)), (.bool (false))], ⟨rfl, ⟨rfl, trivial⟩⟩, ?_⟩
          exact ⟨by rw [if_neg (by omega), decide_eq_false (by omega)]; rfl, hE⟩
      · have hb29p := hb29
        have hz3 : zx < 0 := by simpa using hb29
        refine RL.gno rfl rfl (bool_eq hb29) rfl (by decide) ?_
        refine RL.gno rfl rfl (bool_eq hb29) rfl (by decide) ?_
        refine RL.val rfl rfl (by decide) (r_pick_f (v := (.bool (false))) (bool_eq hb29) rfl) ?_
        refine RL.val rfl rfl (by decide) (r_assign_as (v := (.bool (false))) rfl) ?_
        refine RL.nil ?_
        refine wcond_f rfl ?_
        refine wskip ?_
        refine wseq ?_
        refine wregion ?_
        refine RL.val rfl rfl (by decide) (r_assign_as (v := (.int .i64 (0))) rfl) ?_
        refine RL.val rfl rfl (by decide) (r_assign_as (v := (.bool (false))) rfl) ?_
        refine RL.nil ?_
        refine wret ?_
        refine ⟨[(.int .i64 (0)), (.bool (false))], ⟨rfl, ⟨rfl, trivial⟩⟩, ?_⟩
        exact ⟨by rw [if_neg (by omega), decide_eq_false (by omega)]; rfl, hE⟩

set_option maxHeartbeats 4000000 in
theorem r02_divmod {w : World} {sx : Bool} {Dx : Nat → TypeId → Prop} {vx : Value} {x : List Nat} (hx : Sg (gN .u32) Dx w vx x) (lmx : Lm x) (lnx : x.length ≤ 274877906944) {zx : Int} (ex : sg sx (val x) = zx) {sy : Bool} {Dy : Nat → TypeId → Prop} {vy : Value} {y : List Nat} (hy : Sg (gN .u32) Dy w vy y) (lmy : Lm y) (lny : y.length ≤ 274877906944) {zy : Int} (ey : sg sy (val y) = zy) :
    Calls Try.prog 44 #[(.agg #[(.bool (sx)), vx]), (.agg #[(.bool (sy)), vy])] w fun e w' => ∃ v, e = .returned v ∧ (∃ vq vr, v = .tuple #[.agg #[.bool (decide (zx / zy < 0)), vq], .agg #[.bool (decide (modI zx zy < 0)), vr], .bool (decide (zy ≠ 0))] ∧ Sg (gN .u32) (fun b T => w.heap.size ≤ b ∧ T = 52) w' vq (digs (zx / zy).natAbs) ∧ (digs (zx / zy).natAbs).length ≤ x.length + 3 ∧ Sg (gN .u32) (fun b T => w.heap.size ≤ b ∧ T = 52) w' vr (digs (modI zx zy).natAbs) ∧ (digs (modI zx zy).natAbs).length ≤ y.length) ∧ Ext w w' := by
  have hE : Below w.heap.size w w := Below.refl _ _
  have hlzx := il_le lmx ex
  have hlzy := il_le lmy ey
  refine calls_of (n := 49) (rs := [.cell 4 40, .cell 5 40, .tmp 6]) Try.func44 rfl rfl rfl (Nat.le_of_ble_eq_true rfl) ?_
  refine wset fun F0 hF0 => ?_
  refine wseq ?_
  refine wregion ?_
  refine RL.run rfl rfl (by decide) (h_box (vv := (.agg #[(.bool (sx)), vx])) (cs := [(.bool (sx)), vx]) (hF0 0) rfl) ?_
  rintro _ w1 ⟨b2, rfl, hs5, hb4, he3⟩
  have ge_b2 : w.heap.size ≤ b2 := by rw [hs5]; exact hE.size
  replace hE := Below.ext hE hE.size he3
  refine RL.run rfl rfl (by decide) (h_box (vv := (.agg #[(.bool (sy)), vy])) (cs := [(.bool (sy)), vy]) (hF0 1) rfl) ?_
  rintro _ w6 ⟨b7, rfl, hs10, hb9, he8⟩
  have lt_b2_b7 := Nat.lt_of_lt_of_eq hb4.lt hs10.symm
  have ge_b7 : w.heap.size ≤ b7 := by rw [hs10]; exact hE.size
  replace hE := Below.ext hE hE.size he8
  refine RL.run rfl rfl (by decide) (h_alloc (cs := [(.bool false), (.slice none 0 0)]) ty40 rfl) ?_
  rintro _ w11 ⟨b12, rfl, hs15, hb14, he13⟩
  have lt_b7_b12 := Nat.lt_of_lt_of_eq hb9.lt hs15.symm
  have ge_b12 : w.heap.size ≤ b12 := by rw [hs15]; exact hE.size
  replace hE := Below.ext hE hE.size he13
  refine RL.run rfl rfl (by decide) (h_alloc (cs := [(.bool false), (.slice none 0 0)]) ty40 rfl) ?_
  rintro _ w16 ⟨b17, rfl, hs20, hb19, he18⟩
  have lt_b12_b17 := Nat.lt_of_lt_of_eq hb14.lt hs20.symm
  have ge_b17 : w.heap.size ≤ b17 := by rw [hs20]; exact hE.size
  replace hE := Below.ext hE hE.size he18
  refine RL.val rfl rfl (by decide) (r_assign_as (v := (.bool (false))) rfl) ?_
  refine RL.nil ?_
  refine wseq ?_
  refine wregion ?_
  refine RL.val rfl rfl (by decide) (r_fieldAddr Try.underlying40 rfl ty38 rfl) ?_
  have hm22 := Ext.trans he8 (Ext.trans he13 he18)
  replace hb4 := hb4.ext hm22
  have hc21 := hb4.cell (j := 1) (u := vx) rfl
  refine RL.val rfl rfl (by decide) (r_load (v := vx) Try.underlying38 ag38 rfl hc21) ?_
  refine RL.val rfl rfl (by decide) (r_fieldAddr Try.underlying40 rfl ty38 rfl) ?_
  replace hb9 := hb9.ext (Ext.trans he13 he18)
  have hc23 := hb9.cell (j := 1) (u := vy) rfl
  refine RL.val rfl rfl (by decide) (r_load (v := vy) Try.underlying38 ag38 rfl hc23) ?_
  have hm32 := Ext.trans he3 (Ext.trans he8 (Ext.trans he13 he18))
  replace hx := hx.tr (Sm.ext hm32)
  replace hy := hy.tr (Sm.ext hm32)
  refine RL.call rfl rfl (by decide) (r_call (vl := [vx, vy]) ent54 rfl) (r01_divmod hx (by assumption) (by first | omega | simp) hy (by assumption) (by first | omega | simp)) ?_
  rintro vv30 w24 ⟨⟨vq26, vr28, hv31, hq27, hr29⟩, he25⟩
  subst hv31
  have hlv33 := dl_val (x := x) (by assumption)
  have hlv34 := dl_val (x := y) (by assumption)
  have hlv35 := dl_div (val x) (val y)
  have hlv36 := dl_modZ (val x) (val y)
  have hlv37 := dl_modZ' (val x) (val y)
  replace hq27 := hq27.mono (D' := fun b T => w.heap.size ≤ b ∧ T = 52) (fun b T h => ⟨Nat.le_trans hE.size h.1, h.2⟩)
  replace hr29 := hr29.mono (D' := fun b T => w.heap.size ≤ b ∧ T = 52) (fun b T h => ⟨Nat.le_trans hE.size h.1, h.2⟩)
  replace hE := Below.ext hE hE.size he25
  refine RL.val rfl rfl (by decide) (r_move_as (v := (.tuple #[vq26, vr28, (.bool (decide ((val y) ≠ 0)))])) rfl) ?_
  refine RL.val rfl rfl (by decide) (r_extract (v := vq26) rfl rfl) ?_
  refine RL.val rfl rfl (by decide) (r_extract (v := vr28) rfl rfl) ?_
  refine RL.val rfl rfl (by decide) (r_extract (v := (.bool (decide ((val y) ≠ 0)))) rfl rfl) ?_
  refine RL.val rfl rfl (by decide) (r_assign_as (v := vq26) rfl) ?_
  refine RL.val rfl rfl (by decide) (r_assign_as (v := vr28) rfl) ?_
  refine RL.val rfl rfl (by decide) (r_assign_as (v := (.bool (decide ((val y) ≠ 0)))) rfl) ?_
  refine RL.nil ?_
  refine wseq ?_
  refine wseq ?_
  refine wregion ?_
  refine RL.val rfl rfl (by decide) (r_move_as (v := (.bool (decide ((val y) ≠ 0)))) rfl) ?_
  refine RL.val rfl rfl (by decide) (r_not rfl) ?_
  refine RL.nil ?_
  refine wcond (b := !(decide ((val y) ≠ 0))) rfl (fun hb38 => ?_) (fun hb38 => ?_)
  · have hb38p := hb38
    have hyn : val y = 0 := by simpa using hb38
    have hy0 : zy = 0 := by rw [← ey, hyn, sg_zero]
    refine wseq ?_
    refine wregion ?_
    refine RL.val rfl rfl (by decide) (r_build (vl := []) (cs := [(.bool false), (.slice none 0 0)]) Try.underlying40 ty40 rfl pl40 rfl) ?_
    refine RL.val rfl rfl (by decide) (r_build (vl := []) (cs := [(.bool false), (.slice none 0 0)]) Try.underlying40 ty40 rfl pl40 rfl) ?_
    replace hb14 := hb14.ext (Ext.trans he18 he25)
    refine RL.runs rfl rfl (h_store (vv := (.agg #[(.bool false), (.slice none 0 0)])) (cs := [(.bool false), (.slice none 0 0)]) (o := 0) ty40 rfl rfl rfl rfl (one_cons rfl (one_cons rfl one_nil)) hb14 (Nat.le_of_ble_eq_true rfl)) ?_
    rintro w39 ⟨hn40, hx41, hz42⟩
    replace hE := Below.exc hE hE.size hx41 ge_b12
    have nb_hx41 := (Nb.of hb14 (nu_cons rfl (nu_cons rfl nu_nil)))
    replace hb14 : Bk w39 b12 40 [(.bool false), (.slice none 0 0)] := hn40
    replace hb19 := (hb19.ext he25).exc hx41 (Nat.ne_of_gt lt_b12_b17)
    refine RL.runs rfl rfl (h_store (vv := (.agg #[(.bool false), (.slice none 0 0)])) (cs := [(.bool false), (.slice none 0 0)]) (o := 0) ty40 rfl rfl rfl rfl (one_cons rfl (one_cons rfl one_nil)) hb19 (Nat.le_of_ble_eq_true rfl)) ?_
    rintro w43 ⟨hn44, hx45, hz46⟩
    replace hE := Below.exc hE hE.size hx45 ge_b17
    have nb_hx45 := (Nb.of hb19 (nu_cons rfl (nu_cons rfl nu_nil)))
    replace hb19 : Bk w43 b17 40 [(.bool false), (.slice none 0 0)] := hn44
    refine RL.val rfl rfl (by decide) (r_assign_as (v := (.bool (false))) rfl) ?_
    refine RL.nil ?_
    refine wret ?_
    replace hb14 := hb14.exc hx45 (Nat.ne_of_lt lt_b12_b17)
    refine ⟨[(.agg #[(.bool false), (.slice none 0 0)]), (.agg #[(.bool false), (.slice none 0 0)]), (.bool (false))], ⟨⟨_, _, [(.bool false), (.slice none 0 0)], rfl, ⟨_, Try.underlying40⟩, hb14.cells rfl, .inl ⟨ag40, ⟨_, _, ty40⟩, rfl⟩⟩, ⟨⟨_, _, [(.bool false), (.slice none 0 0)], rfl, ⟨_, Try.underlying40⟩, hb19.cells rfl, .inl ⟨ag40, ⟨_, _, ty40⟩, rfl⟩⟩, ⟨rfl, trivial⟩⟩⟩, ?_⟩
    exact ⟨⟨_, _, by rw [hy0, Int.ediv_zero, decide_eq_false (show ¬ ((0 : Int) ≠ 0) by decide)]; rfl, by rw [hy0, Int.ediv_zero]; exact Sg.nil, by rw [hy0, Int.ediv_zero]; exact Nat.zero_le _, by rw [hy0]; exact Sg.nil, by rw [hy0]; exact Nat.zero_le _⟩, hE⟩
  · have hb38p := hb38
    have hyn : val y ≠ 0 := by simpa using hb38
    refine wskip ?_
    refine wseq ?_
    obtain ⟨Q0, hQ0⟩ : ∃ z, sg (sx != sy) (val (digs ((val x) / (val y)))) = z := ⟨_, rfl⟩
    obtain ⟨R0, hR0⟩ : ∃ z, sg sx (val (digs (modZ (val x) (val y)))) = z := ⟨_, rfl⟩
    have hlaw := idiv_law (Q := Q0) (R := R0) ex ey hyn (by rw [← hQ0, val_digs]) (by rw [← hR0, val_digs, show modZ (val x) (val y) = val x % val y from if_neg hyn])
    have hyz : zy ≠ 0 := fun h => hyn (sg_eq_zero.1 (ey.trans h))
    refine wdraw mixed fun w47 he48 => ?_
    replace hE := Below.ext hE hE.size he48
    refine RA.take 0 rfl (by kernel_rfl) rfl rfl (by decide) (fun _ => r_fieldAddr Try.underlying40 rfl ty4 rfl) ?_
    replace hb4 := hb4.ext (Ext.trans he25 he48)
    have hc49 := hb4.cell (j := 0) (u := (.bool (sx))) rfl
    refine RA.rd 1 rfl (by kernel_rfl) rfl rfl rfl (by decide) (Ext.refl _) (fun u hu => r_load (v := (.bool (sx))) Try.underlying4 ag4 rfl (cell_ext hu hc49)) ?_
    refine RA.take 2 rfl (by kernel_rfl) rfl rfl (by decide) (fun _ => r_fieldAddr Try.underlying40 rfl ty4 rfl) ?_
    replace hb9 := hb9.ext (Ext.trans he25 he48)
    have hc50 := hb9.cell (j := 0) (u := (.bool (sy))) rfl
    refine RA.rd 3 rfl (by kernel_rfl) rfl rfl rfl (by decide) (Ext.refl _) (fun u hu => r_load (v := (.bool (sy))) Try.underlying4 ag4 rfl (cell_ext hu hc50)) ?_
    refine RA.take 4 rfl (by kernel_rfl) rfl rfl (by decide) (fun _ => r_neqb Try.underlying4 rfl rfl) ?_
    refine RA.take 5 rfl (by kernel_rfl) rfl rfl (by decide) (fun _ => r_move_as (v := vq26) rfl) ?_
    refine RA.take 7 rfl (by kernel_rfl) rfl rfl (by decide) (fun _ => r_fieldAddr Try.underlying40 rfl ty4 rfl) ?_
    have hc51 := hb4.cell (j := 0) (u := (.bool (sx))) rfl
    refine RA.rd 8 rfl (by kernel_rfl) rfl rfl rfl (by decide) (Ext.refl _) (fun u hu => r_load (v := (.bool (sx))) Try.underlying4 ag4 rfl (cell_ext hu hc51)) ?_
    refine RA.take 9 rfl (by kernel_rfl) rfl rfl (by decide) (fun _ => r_move_as (v := vr28) rfl) ?_
    refine RA.all [6] (by kernel_rfl) rfl ?_
    replace hq27 := hq27.tr (Sm.ext he48)
    refine RS.call rfl rfl rfl (by decide) (r_call (vl := [(.bool (sx != sy)), vq26]) ent46 rfl) (r02_make hq27 (digs_lm _) (by first | omega | simp) (show sg (sx != sy) (val (digs ((val x) / (val y)))) = Q0 from hQ0)) ?_ RS.nil
    rintro _ w52 ⟨⟨vr54, rfl, hr55, hl56⟩, he53⟩
    refine ⟨.inr (.inr he53), RA.more (S' := fun u => Ext _ u) (fun u hu => Ext.trans he53 hu) ?_⟩
    replace hr55 := hr55.mono (D' := fun b T => w.heap.size ≤ b ∧ T = 52) (fun b T h => ⟨Nat.le_trans hE.size h.1, h.2⟩)
    replace hE := Below.ext hE hE.size he53
    refine RA.all [10] (by kernel_rfl) rfl ?_
    replace hr29 := hr29.tr (Sm.ext (Ext.trans he48 he53))
    refine RS.call rfl rfl rfl (by decide) (r_call (vl := [(.bool (sx)), vr28]) ent46 rfl) (r02_make hr29 (digs_lm _) (by first | omega | simp) (show sg sx (val (digs (modZ (val x) (val y)))) = R0 from hR0)) ?_ RS.nil
    rintro _ w57 ⟨⟨vr59, rfl, hr60, hl61⟩, he58⟩
    refine ⟨.inr (.inr he58), RA.more (S' := fun u => Ext _ u) (fun u hu => Ext.trans he58 hu) ?_⟩
    replace hr60 := hr60.mono (D' := fun b T => w.heap.size ≤ b ∧ T = 52) (fun b T h => ⟨Nat.le_trans hE.size h.1, h.2⟩)
    replace hE := Below.ext hE hE.size he58
    refine RA.all [11] (by kernel_rfl) rfl ?_
    have hm66 := Ext.trans he18 (Ext.trans he25 (Ext.trans he48 (Ext.trans he53 he58)))
    replace hb14 := hb14.ext hm66
    refine RS.runs rfl rfl rfl (h_store (vv := (.agg #[(.bool (decide (Q0 < 0))), vr54])) (cs := [(.bool (decide (Q0 < 0))), vr54]) (o := 0) ty40 rfl rfl rfl rfl (one_cons rfl (one_cons hr55.one one_nil)) hb14 (Nat.le_of_ble_eq_true rfl)) ?_ RS.nil
    rintro w62 ⟨hn63, hx64, hz65⟩
    refine ⟨.inr (.inl (by kernel_rfl)), ?_⟩
    replace hE := Below.exc hE hE.size hx64 ge_b12
    have nb_hx64 := (Nb.of hb14 (nu_cons rfl (nu_cons rfl nu_nil)))
    replace hb14 : Bk w62 b12 40 [(.bool (decide (Q0 < 0))), vr54] := hn63
    refine RA.all [12] (by kernel_rfl) rfl ?_
    have hm71 := Ext.trans he25 (Ext.trans he48 (Ext.trans he53 he58))
    replace hb19 := (hb19.ext hm71).exc hx64 (Nat.ne_of_gt lt_b12_b17)
    refine RS.runs rfl rfl rfl (h_store (vv := (.agg #[(.bool (decide (R0 < 0))), vr59])) (cs := [(.bool (decide (R0 < 0))), vr59]) (o := 0) ty40 rfl rfl rfl rfl (one_cons rfl (one_cons hr60.one one_nil)) hb19 (Nat.le_of_ble_eq_true rfl)) ?_ RS.nil
    rintro w67 ⟨hn68, hx69, hz70⟩
    refine ⟨.inr (.inl (by kernel_rfl)), ?_⟩
    replace hE := Below.exc hE hE.size hx69 ge_b17
    have nb_hx69 := (Nb.of hb19 (nu_cons rfl (nu_cons rfl nu_nil)))
    replace hb19 : Bk w67 b17 40 [(.bool (decide (R0 < 0))), vr59] := hn68
    refine RA.done (by kernel_rfl) ?_
    refine wseq ?_
    refine wseq ?_
    refine wregion ?_
    refine RL.val rfl rfl (by decide) (r_fieldAddr Try.underlying40 rfl ty4 rfl) ?_
    have hc72 := hb19.cell (j := 0) (u := (.bool (decide (R0 < 0)))) rfl
    refine RL.val rfl rfl (by decide) (r_load (v := (.bool (decide (R0 < 0)))) Try.underlying4 ag4 rfl hc72) ?_
    refine RL.nil ?_
    refine wcond (b := decide (R0 < 0)) rfl (fun hb73 => ?_) (fun hb73 => ?_)
    · have hb73p := hb73
      replace hb73p := of_decide_eq_true hb73p
      have hR := hb73p
      refine wseq ?_
      refine wdraw mixed fun w74 he75 => ?_
      replace hE := Below.ext hE hE.size he75
      replace hb19 := hb19.ext he75
      have hc76 := hb19.cells (o := 0) (cs := [(.bool (decide (R0 < 0))), vr59]) rfl
      refine RA.rd 0 rfl (by kernel_rfl) rfl rfl rfl (by decide) (Ext.refl _) (fun u hu => r_loada (o := 0) (cs := [(.bool (decide (R0 < 0))), vr59]) Try.underlying40 ag40 ty40 rfl (fun j v hj => cell_ext hu (hc76 j v hj))) ?_
      replace hb9 := (((hb9.ext (Ext.trans he53 he58)).exc hx64 (Nat.ne_of_lt lt_b7_b12)).exc hx69 (Nat.ne_of_lt (Nat.lt_trans lt_b7_b12 lt_b12_b17))).ext he75
      have hc77 := hb9.cells (o := 0) (cs := [(.bool (sy)), vy]) rfl
      refine RA.rd 1 rfl (by kernel_rfl) rfl rfl rfl (by decide) (Ext.refl _) (fun u hu => r_loada (o := 0) (cs := [(.bool (sy)), vy]) Try.underlying40 ag40 ty40 rfl (fun j v hj => cell_ext hu (hc77 j v hj))) ?_
      refine RA.all [2] (by kernel_rfl) rfl ?_
      replace hy := (((hy.tr (Sm.ext hm71)).apn hx64 nb_hx64).apn hx69 nb_hx69).tr (Sm.ext he75)
      refine RS.call rfl rfl rfl (by decide) (r_call (vl := [(.agg #[(.bool (sy)), vy])]) ent56 rfl) (r02_abs hy (by assumption) (by first | omega | simp) (show sg sy (val y) = zy from ey)) ?_ RS.nil
      rintro _ w78 ⟨⟨vr80, rfl, hr81, hl82⟩, he79⟩
      refine ⟨.inr (.inr he79), RA.more (S' := fun u => Ext _ u) (fun u hu => Ext.trans he79 hu) ?_⟩
      replace hr81 := hr81.mono (D' := fun b T => w.heap.size ≤ b ∧ T = 52) (fun b T h => ⟨Nat.le_trans hE.size h.1, h.2⟩)
      replace hE := Below.ext hE hE.size he79
      refine RA.all [3] (by kernel_rfl) rfl ?_
      replace hr60 := ((hr60.apn hx64 nb_hx64).apn hx69 nb_hx69).tr (Sm.ext (Ext.trans he75 he79))
      refine RS.call rfl rfl rfl (by decide) (r_call (vl := [(.agg #[(.bool (decide (R0 < 0))), vr59]), (.agg #[(.bool (decide (((zy.natAbs : Nat) : Int) < 0))), vr80])]) ent55 rfl) (r02_add hr60 (digs_lm _) (by first | omega | simp) (sg_canon _) hr81 (digs_lm _) (by first | omega | simp) (sg_canon _)) ?_ RS.nil
      rintro _ w83 ⟨⟨vr85, rfl, hr86, hl87⟩, he84⟩
      refine ⟨.inr (.inr he84), RA.more (S' := fun u => Ext _ u) (fun u hu => Ext.trans he84 hu) ?_⟩
      replace hr86 := hr86.mono (D' := fun b T => w.heap.size ≤ b ∧ T = 52) (fun b T h => ⟨Nat.le_trans hE.size h.1, h.2⟩)
      replace hE := Below.ext hE hE.size he84
      refine RA.all [4] (by kernel_rfl) rfl ?_
      replace hb19 := hb19.ext (Ext.trans he79 he84)
      refine RS.runs rfl rfl rfl (h_store (vv := (.agg #[(.bool (decide ((R0 + ((zy.natAbs : Nat) : Int)) < 0))), vr85])) (cs := [(.bool (decide ((R0 + ((zy.natAbs : Nat) : Int)) < 0))), vr85]) (o := 0) ty40 rfl rfl rfl rfl (one_cons rfl (one_cons hr86.one one_nil)) hb19 (Nat.le_of_ble_eq_true rfl)) ?_ RS.nil
      rintro w88 ⟨hn89, hx90, hz91⟩
      refine ⟨.inr (.inl (by kernel_rfl)), ?_⟩
      replace hE := Below.exc hE hE.size hx90 ge_b17
      have nb_hx90 := (Nb.of hb19 (nu_cons rfl (nu_cons hr60.nu nu_nil)))
      replace hb19 : Bk w88 b17 40 [(.bool (decide ((R0 + ((zy.natAbs : Nat) : Int)) < 0))), vr85] := hn89
      refine RA.done (by kernel_rfl) ?_
      refine wseq ?_
      refine wregion ?_
      refine RL.val rfl rfl (by decide) (r_fieldAddr Try.underlying40 rfl ty4 rfl) ?_
      replace hb9 := (hb9.ext (Ext.trans he79 he84)).exc hx90 (Nat.ne_of_lt (Nat.lt_trans lt_b7_b12 lt_b12_b17))
      have hc92 := hb9.cell (j := 0) (u := (.bool (sy))) rfl
      refine RL.val rfl rfl (by decide) (r_load (v := (.bool (sy))) Try.underlying4 ag4 rfl hc92) ?_
      refine RL.nil ?_
      refine wcond (b := sy) rfl (fun hb93 => ?_) (fun hb93 => ?_)
      · have hb93p := hb93
        have hsy : sy = true := hb93
        refine wdraw mixed fun w94 he95 => ?_
        replace hE := Below.ext hE hE.size he95
        have hm97 := Ext.trans he75 (Ext.trans he79 he84)
        replace hb14 := (((hb14.exc hx69 (Nat.ne_of_lt lt_b12_b17)).ext hm97).exc hx90 (Nat.ne_of_lt lt_b12_b17)).ext he95
        have hc96 := hb14.cells (o := 0) (cs := [(.bool (decide (Q0 < 0))), vr54]) rfl
        refine RA.rd 0 rfl (by kernel_rfl) rfl rfl rfl (by decide) (Ext.refl _) (fun u hu => r_loada (o := 0) (cs := [(.bool (decide (Q0 < 0))), vr54]) Try.underlying40 ag40 ty40 rfl (fun j v hj => cell_ext hu (hc96 j v hj))) ?_
        refine RA.all [1] (by kernel_rfl) rfl ?_
        refine RS.call rfl rfl rfl (by decide) (r_call (vl := [(.int .i64 (1))]) ent26 rfl) (r02_from (by omega)) ?_ RS.nil
        rintro _ w98 ⟨⟨vr100, rfl, hr101, hl102⟩, he99⟩
        refine ⟨.inr (.inr he99), RA.more (S' := fun u => Ext _ u) (fun u hu => Ext.trans he99 hu) ?_⟩
        replace hr101 := hr101.mono (D' := fun b T => w.heap.size ≤ b ∧ T = 52) (fun b T h => ⟨Nat.le_trans hE.size h.1, h.2⟩)
        replace hE := Below.ext hE hE.size he99
        refine RA.all [2] (by kernel_rfl) rfl ?_
        replace hr55 := (((((hr55.tr (Sm.ext he58)).apn hx64 nb_hx64).apn hx69 nb_hx69).tr (Sm.ext hm97)).apn hx90 nb_hx90).tr (Sm.ext (Ext.trans he95 he99))
        refine RS.call rfl rfl rfl (by decide) (r_call (vl := [(.agg #[(.bool (decide (Q0 < 0))), vr54]), (.agg #[(.bool (decide (1 < 0))), vr100])]) ent55 rfl) (r02_add hr55 (digs_lm _) (by first | omega | simp) (sg_canon _) hr101 (digs_lm _) (by first | omega | simp) (sg_canon _)) ?_ RS.nil
        rintro _ w103 ⟨⟨vr105, rfl, hr106, hl107⟩, he104⟩
        refine ⟨.inr (.inr he104), RA.more (S' := fun u => Ext _ u) (fun u hu => Ext.trans he104 hu) ?_⟩
        replace hr106 := hr106.mono (D' := fun b T => w.heap.size ≤ b ∧ T = 52) (fun b T h => ⟨Nat.le_trans hE.size h.1, h.2⟩)
        replace hE := Below.ext hE hE.size he104
        refine RA.all [3] (by kernel_rfl) rfl ?_
        replace hb14 := hb14.ext (Ext.trans he99 he104)
        refine RS.runs rfl rfl rfl (h_store (vv := (.agg #[(.bool (decide ((Q0 + 1) < 0))), vr105])) (cs := [(.bool (decide ((Q0 + 1) < 0))), vr105]) (o := 0) ty40 rfl rfl rfl rfl (one_cons rfl (one_cons hr106.one one_nil)) hb14 (Nat.le_of_ble_eq_true rfl)) ?_ RS.nil
        rintro w108 ⟨hn109, hx110, hz111⟩
        refine ⟨.inr (.inl (by kernel_rfl)), ?_⟩
        replace hE := Below.exc hE hE.size hx110 ge_b12
        have nb_hx110 := (Nb.of hb14 (nu_cons rfl (nu_cons hr55.nu nu_nil)))
        replace hb14 : Bk w108 b12 40 [(.bool (decide ((Q0 + 1) < 0))), vr105] := hn109
        refine RA.done (by kernel_rfl) ?_
        refine wseq ?_
        refine wdrawT (fun u => Bk u b17 40 [(.bool (decide ((R0 + ((zy.natAbs : Nat) : Int)) < 0))), vr85]) mixed fun w112 he113 => ?_
        replace hE := Below.ext hE hE.size he113
        have hm114 := Ext.trans he95 (Ext.trans he99 he104)
        replace hb19 := ((hb19.ext hm114).exc hx110 (Nat.ne_of_gt lt_b12_b17)).ext he113
        refine RA.rd 1 rfl (by kernel_rfl) rfl rfl rfl (by decide) hb19 (fun u hu => r_loada (o := 0) (cs := [(.bool (decide ((R0 + ((zy.natAbs : Nat) : Int)) < 0))), vr85]) Try.underlying40 ag40 ty40 rfl (hu.cells (o := 0) (cs := [(.bool (decide ((R0 + ((zy.natAbs : Nat) : Int)) < 0))), vr85]) rfl)) ?_
        refine RA.all [0] (by kernel_rfl) rfl ?_
        replace hb14 := hb14.ext he113
        have hc116 := hb14.cells (o := 0) (cs := [(.bool (decide ((Q0 + 1) < 0))), vr105]) rfl
        refine RS.val rfl rfl rfl (by decide) (r_loada (o := 0) (cs := [(.bool (decide ((Q0 + 1) < 0))), vr105]) Try.underlying40 ag40 ty40 rfl hc116) (.inl ⟨rfl, rfl⟩) ?_ RS.nil
        refine RA.all [2] (by kernel_rfl) rfl ?_
        refine RS.runs rfl rfl rfl (h_store (vv := (.agg #[(.bool (decide ((Q0 + 1) < 0))), vr105])) (cs := [(.bool (decide ((Q0 + 1) < 0))), vr105]) (o := 0) ty40 rfl rfl rfl rfl (one_cons rfl (one_cons hr106.one one_nil)) hb14 (Nat.le_of_ble_eq_true rfl)) ?_ RS.nil
        rintro w117 ⟨hn118, hx119, hz120⟩
        replace hE := Below.exc hE hE.size hx119 ge_b12
        have nb_hx119 := (Nb.of hb14 (nu_cons rfl (nu_cons hr106.nu nu_nil)))
        replace hb14 : Bk w117 b12 40 [(.bool (decide ((Q0 + 1) < 0))), vr105] := hn118
        replace hb19 := hb19.exc hx119 (Nat.ne_of_gt lt_b12_b17)
        refine ⟨.inr (.inr hb19), ?_⟩
        refine RA.all [3] (by kernel_rfl) rfl ?_
        refine RS.runs rfl rfl rfl (h_store (vv := (.agg #[(.bool (decide ((R0 + ((zy.natAbs : Nat) : Int)) < 0))), vr85])) (cs := [(.bool (decide ((R0 + ((zy.natAbs : Nat) : Int)) < 0))), vr85]) (o := 0) ty40 rfl rfl rfl rfl (one_cons rfl (one_cons hr86.one one_nil)) hb19 (Nat.le_of_ble_eq_true rfl)) ?_ RS.nil
        rintro w121 ⟨hn122, hx123, hz124⟩
        refine ⟨.inr (.inl (by kernel_rfl)), ?_⟩
        replace hE := Below.exc hE hE.size hx123 ge_b17
        have nb_hx123 := (Nb.of hb19 (nu_cons rfl (nu_cons hr86.nu nu_nil)))
        replace hb19 : Bk w121 b17 40 [(.bool (decide ((R0 + ((zy.natAbs : Nat) : Int)) < 0))), vr85] := hn122
        refine RA.take 4 rfl (by kernel_rfl) rfl rfl (by decide) (fun _ => r_assign_as (v := (.bool (true))) rfl) ?_
        refine RA.done (by kernel_rfl) ?_
        refine wret ?_
        replace hb14 := hb14.exc hx123 (Nat.ne_of_lt lt_b12_b17)
        refine ⟨[(.agg #[(.bool (decide ((Q0 + 1) < 0))), vr105]), (.agg #[(.bool (decide ((R0 + ((zy.natAbs : Nat) : Int)) < 0))), vr85]), (.bool (true))], ⟨⟨_, _, [(.bool (decide ((Q0 + 1) < 0))), vr105], rfl, ⟨_, Try.underlying40⟩, hb14.cells rfl, .inl ⟨ag40, ⟨_, _, ty40⟩, rfl⟩⟩, ⟨⟨_, _, [(.bool (decide ((R0 + ((zy.natAbs : Nat) : Int)) < 0))), vr85], rfl, ⟨_, Try.underlying40⟩, hb19.cells rfl, .inl ⟨ag40, ⟨_, _, ty40⟩, rfl⟩⟩, ⟨rfl, trivial⟩⟩⟩, ?_⟩
        replace hr106 := (((hr106.apn hx110 nb_hx110).tr (Sm.ext he113)).apn hx119 nb_hx119).apn hx123 nb_hx123
        have hq1 := hr106
        replace hr86 := (((((hr86.apn hx90 nb_hx90).tr (Sm.ext hm114)).apn hx110 nb_hx110).tr (Sm.ext he113)).apn hx119 nb_hx119).apn hx123 nb_hx123
        have hr1 := hr86
        have eq1 : zx / zy = (Q0 + 1) := by first | exact (hlaw.2 hR).1 | exact (hlaw.1 hR).1 hsy | exact (hlaw.1 hR).2.1 hsy
        have er1 : modI zx zy = (R0 + ((zy.natAbs : Nat) : Int)) := by rw [show modI zx zy = zx % zy from if_neg hyz]; first | exact (hlaw.2 hR).2 | exact (hlaw.1 hR).2.2
        have hlm := il_modI zx zy
        exact ⟨⟨_, _, by rw [eq1, er1, decide_eq_true hyz]; rfl, by rw [eq1]; exact hq1, by rw [eq1]; omega, by rw [er1]; exact hr1, by omega⟩, hE⟩
      · have hb93p := hb93
        have hsy : sy = false := hb93
        refine wdraw mixed fun w125 he126 => ?_
        replace hE := Below.ext hE hE.size he126
        have hm128 := Ext.trans he75 (Ext.trans he79 he84)
        replace hb14 := (((hb14.exc hx69 (Nat.ne_of_lt lt_b12_b17)).ext hm128).exc hx90 (Nat.ne_of_lt lt_b12_b17)).ext he126
        have hc127 := hb14.cells (o := 0) (cs := [(.bool (decide (Q0 < 0))), vr54]) rfl
        refine RA.rd 0 rfl (by kernel_rfl) rfl rfl rfl (by decide) (Ext.refl _) (fun u hu => r_loada (o := 0) (cs := [(.bool (decide (Q0 < 0))), vr54]) Try.underlying40 ag40 ty40 rfl (fun j v hj => cell_ext hu (hc127 j v hj))) ?_
        refine RA.all [1] (by kernel_rfl) rfl ?_
        refine RS.call rfl rfl rfl (by decide) (r_call (vl := [(.int .i64 (1))]) ent26 rfl) (r02_from (by omega)) ?_ RS.nil
        rintro _ w129 ⟨⟨vr131, rfl, hr132, hl133⟩, he130⟩
        refine ⟨.inr (.inr he130), RA.more (S' := fun u => Ext _ u) (fun u hu => Ext.trans he130 hu) ?_⟩
        replace hr132 := hr132.mono (D' := fun b T => w.heap.size ≤ b ∧ T = 52) (fun b T h => ⟨Nat.le_trans hE.size h.1, h.2⟩)
        replace hE := Below.ext hE hE.size he130
        refine RA.all [2] (by kernel_rfl) rfl ?_
        replace hr55 := (((((hr55.tr (Sm.ext he58)).apn hx64 nb_hx64).apn hx69 nb_hx69).tr (Sm.ext hm128)).apn hx90 nb_hx90).tr (Sm.ext (Ext.trans he126 he130))
        refine RS.call rfl rfl rfl (by decide) (r_call (vl := [(.agg #[(.bool (decide (Q0 < 0))), vr54]), (.agg #[(.bool (decide (1 < 0))), vr131])]) ent57 rfl) (r02_sub hr55 (digs_lm _) (by first | omega | simp) (sg_canon _) hr132 (digs_lm _) (by first | omega | simp) (sg_canon _)) ?_ RS.nil
        rintro _ w134 ⟨⟨vr136, rfl, hr137, hl138⟩, he135⟩
        refine ⟨.inr (.inr he135), RA.more (S' := fun u => Ext _ u) (fun u hu => Ext.trans he135 hu) ?_⟩
        replace hr137 := hr137.mono (D' := fun b T => w.heap.size ≤ b ∧ T = 52) (fun b T h => ⟨Nat.le_trans hE.size h.1, h.2⟩)
        replace hE := Below.ext hE hE.size he135
        refine RA.all [3] (by kernel_rfl) rfl ?_
        replace hb14 := hb14.ext (Ext.trans he130 he135)
        refine RS.runs rfl rfl rfl (h_store (vv := (.agg #[(.bool (decide ((Q0 - 1) < 0))), vr136])) (cs := [(.bool (decide ((Q0 - 1) < 0))), vr136]) (o := 0) ty40 rfl rfl rfl rfl (one_cons rfl (one_cons hr137.one one_nil)) hb14 (Nat.le_of_ble_eq_true rfl)) ?_ RS.nil
        rintro w139 ⟨hn140, hx141, hz142⟩
        refine ⟨.inr (.inl (by kernel_rfl)), ?_⟩
        replace hE := Below.exc hE hE.size hx141 ge_b12
        have nb_hx141 := (Nb.of hb14 (nu_cons rfl (nu_cons hr55.nu nu_nil)))
        replace hb14 : Bk w139 b12 40 [(.bool (decide ((Q0 - 1) < 0))), vr136] := hn140
        refine RA.done (by kernel_rfl) ?_
        refine wseq ?_
        refine wdrawT (fun u => Bk u b17 40 [(.bool (decide ((R0 + ((zy.natAbs : Nat) : Int)) < 0))), vr85]) mixed fun w143 he144 => ?_
        replace hE := Below.ext hE hE.size he144
        have hm145 := Ext.trans he126 (Ext.trans he130 he135)
        replace hb19 := ((hb19.ext hm145).exc hx141 (Nat.ne_of_gt lt_b12_b17)).ext he144
        refine RA.rd 1 rfl (by kernel_rfl) rfl rfl rfl (by decide) hb19 (fun u hu => r_loada (o := 0) (cs := [(.bool (decide ((R0 + ((zy.natAbs : Nat) : Int)) < 0))), vr85]) Try.underlying40 ag40 ty40 rfl (hu.cells (o := 0) (cs := [(.bool (decide ((R0 + ((zy.natAbs : Nat) : Int)) < 0))), vr85]) rfl)) ?_
        refine RA.all [0] (by kernel_rfl) rfl ?_
        replace hb14 := hb14.ext he144
        have hc147 := hb14.cells (o := 0) (cs := [(.bool (decide ((Q0 - 1) < 0))), vr136]) rfl
        refine RS.val rfl rfl rfl (by decide) (r_loada (o := 0) (cs := [(.bool (decide ((Q0 - 1) < 0))), vr136]) Try.underlying40 ag40 ty40 rfl hc147) (.inl ⟨rfl, rfl⟩) ?_ RS.nil
        refine RA.all [2] (by kernel_rfl) rfl ?_
        refine RS.runs rfl rfl rfl (h_store (vv := (.agg #[(.bool (decide ((Q0 - 1) < 0))), vr136])) (cs := [(.bool (decide ((Q0 - 1) < 0))), vr136]) (o := 0) ty40 rfl rfl rfl rfl (one_cons rfl (one_cons hr137.one one_nil)) hb14 (Nat.le_of_ble_eq_true rfl)) ?_ RS.nil
        rintro w148 ⟨hn149, hx150, hz151⟩
        replace hE := Below.exc hE hE.size hx150 ge_b12
        have nb_hx150 := (Nb.of hb14 (nu_cons rfl (nu_cons hr137.nu nu_nil)))
        replace hb14 : Bk w148 b12 40 [(.bool (decide ((Q0 - 1) < 0))), vr136] := hn149
        replace hb19 := hb19.exc hx150 (Nat.ne_of_gt lt_b12_b17)
        refine ⟨.inr (.inr hb19), ?_⟩
        refine RA.all [3] (by kernel_rfl) rfl ?_
        refine RS.runs rfl rfl rfl (h_store (vv := (.agg #[(.bool (decide ((R0 + ((zy.natAbs : Nat) : Int)) < 0))), vr85])) (cs := [(.bool (decide ((R0 + ((zy.natAbs : Nat) : Int)) < 0))), vr85]) (o := 0) ty40 rfl rfl rfl rfl (one_cons rfl (one_cons hr86.one one_nil)) hb19 (Nat.le_of_ble_eq_true rfl)) ?_ RS.nil
        rintro w152 ⟨hn153, hx154, hz155⟩
        refine ⟨.inr (.inl (by kernel_rfl)), ?_⟩
        replace hE := Below.exc hE hE.size hx154 ge_b17
        have nb_hx154 := (Nb.of hb19 (nu_cons rfl (nu_cons hr86.nu nu_nil)))
        replace hb19 : Bk w152 b17 40 [(.bool (decide ((R0 + ((zy.natAbs : Nat) : Int)) < 0))), vr85] := hn153
        refine RA.take 4 rfl (by kernel_rfl) rfl rfl (by decide) (fun _ => r_assign_as (v := (.bool (true))) rfl) ?_
        refine RA.done (by kernel_rfl) ?_
        refine wret ?_
        replace hb14 := hb14.exc hx154 (Nat.ne_of_lt lt_b12_b17)
        refine ⟨[(.agg #[(.bool (decide ((Q0 - 1) < 0))), vr136]), (.agg #[(.bool (decide ((R0 + ((zy.natAbs : Nat) : Int)) < 0))), vr85]), (.bool (true))], ⟨⟨_, _, [(.bool (decide ((Q0 - 1) < 0))), vr136], rfl, ⟨_, Try.underlying40⟩, hb14.cells rfl, .inl ⟨ag40, ⟨_, _, ty40⟩, rfl⟩⟩, ⟨⟨_, _, [(.bool (decide ((R0 + ((zy.natAbs : Nat) : Int)) < 0))), vr85], rfl, ⟨_, Try.underlying40⟩, hb19.cells rfl, .inl ⟨ag40, ⟨_, _, ty40⟩, rfl⟩⟩, ⟨rfl, trivial⟩⟩⟩, ?_⟩
        replace hr137 := (((hr137.apn hx141 nb_hx141).tr (Sm.ext he144)).apn hx150 nb_hx150).apn hx154 nb_hx154
        have hq1 := hr137
        replace hr86 := (((((hr86.apn hx90 nb_hx90).tr (Sm.ext hm145)).apn hx141 nb_hx141).tr (Sm.ext he144)).apn hx150 nb_hx150).apn hx154 nb_hx154
        have hr1 := hr86
        have eq1 : zx / zy = (Q0 - 1) := by first | exact (hlaw.2 hR).1 | exact (hlaw.1 hR).1 hsy | exact (hlaw.1 hR).2.1 hsy
        have er1 : modI zx zy = (R0 + ((zy.natAbs : Nat) : Int)) := by rw [show modI zx zy = zx % zy from if_neg hyz]; first | exact (hlaw.2 hR).2 | exact (hlaw.1 hR).2.2
        have hlm := il_modI zx zy
        exact ⟨⟨_, _, by rw [eq1, er1, decide_eq_true hyz]; rfl, by rw [eq1]; exact hq1, by rw [eq1]; omega, by rw [er1]; exact hr1, by omega⟩, hE⟩
    · have hb73p := hb73
      replace hb73p := of_decide_eq_false hb73p
      have hR := hb73p
      refine wskip ?_
      refine wseq ?_
      refine wdrawT (fun u => Bk u b17 40 [(.bool (decide (R0 < 0))), vr59]) mixed fun w156 he157 => ?_
      replace hE := Below.ext hE hE.size he157
      replace hb19 := hb19.ext he157
      refine RA.rd 1 rfl (by kernel_rfl) rfl rfl rfl (by decide) hb19 (fun u hu => r_loada (o := 0) (cs := [(.bool (decide (R0 < 0))), vr59]) Try.underlying40 ag40 ty40 rfl (hu.cells (o := 0) (cs := [(.bool (decide (R0 < 0))), vr59]) rfl)) ?_
      refine RA.all [0] (by kernel_rfl) rfl ?_
      replace hb14 := (hb14.exc hx69 (Nat.ne_of_lt lt_b12_b17)).ext he157
      have hc159 := hb14.cells (o := 0) (cs := [(.bool (decide (Q0 < 0))), vr54]) rfl
      refine RS.val rfl rfl rfl (by decide) (r_loada (o := 0) (cs := [(.bool (decide (Q0 < 0))), vr54]) Try.underlying40 ag40 ty40 rfl hc159) (.inl ⟨rfl, rfl⟩) ?_ RS.nil
      refine RA.all [2] (by kernel_rfl) rfl ?_
      refine RS.runs rfl rfl rfl (h_store (vv := (.agg #[(.bool (decide (Q0 < 0))), vr54])) (cs := [(.bool (decide (Q0 < 0))), vr54]) (o := 0) ty40 rfl rfl rfl rfl (one_cons rfl (one_cons hr55.one one_nil)) hb14 (Nat.le_of_ble_eq_true rfl)) ?_ RS.nil
      rintro w160 ⟨hn161, hx162, hz163⟩
      replace hE := Below.exc hE hE.size hx162 ge_b12
      have nb_hx162 := (Nb.of hb14 (nu_cons rfl (nu_cons hr55.nu nu_nil)))
      replace hb14 : Bk w160 b12 40 [(.bool (decide (Q0 < 0))), vr54] := hn161
      replace hb19 := hb19.exc hx162 (Nat.ne_of_gt lt_b12_b17)
      refine ⟨.inr (.inr hb19), ?_⟩
      refine RA.all [3] (by kernel_rfl) rfl ?_
      refine RS.runs rfl rfl rfl (h_store (vv := (.agg #[(.bool (decide (R0 < 0))), vr59])) (cs := [(.bool (decide (R0 < 0))), vr59]) (o := 0) ty40 rfl rfl rfl rfl (one_cons rfl (one_cons hr60.one one_nil)) hb19 (Nat.le_of_ble_eq_true rfl)) ?_ RS.nil
      rintro w164 ⟨hn165, hx166, hz167⟩
      refine ⟨.inr (.inl (by kernel_rfl)), ?_⟩
      replace hE := Below.exc hE hE.size hx166 ge_b17
      have nb_hx166 := (Nb.of hb19 (nu_cons rfl (nu_cons hr60.nu nu_nil)))
      replace hb19 : Bk w164 b17 40 [(.bool (decide (R0 < 0))), vr59] := hn165
      refine RA.take 4 rfl (by kernel_rfl) rfl rfl (by decide) (fun _ => r_assign_as (v := (.bool (true))) rfl) ?_
      refine RA.done (by kernel_rfl) ?_
      refine wret ?_
      replace hb14 := hb14.exc hx166 (Nat.ne_of_lt lt_b12_b17)
      refine ⟨[(.agg #[(.bool (decide (Q0 < 0))), vr54]), (.agg #[(.bool (decide (R0 < 0))), vr59]), (.bool (true))], ⟨⟨_, _, [(.bool (decide (Q0 < 0))), vr54], rfl, ⟨_, Try.underlying40⟩, hb14.cells rfl, .inl ⟨ag40, ⟨_, _, ty40⟩, rfl⟩⟩, ⟨⟨_, _, [(.bool (decide (R0 < 0))), vr59], rfl, ⟨_, Try.underlying40⟩, hb19.cells rfl, .inl ⟨ag40, ⟨_, _, ty40⟩, rfl⟩⟩, ⟨rfl, trivial⟩⟩⟩, ?_⟩
      replace hr55 := (((((hr55.tr (Sm.ext he58)).apn hx64 nb_hx64).apn hx69 nb_hx69).tr (Sm.ext he157)).apn hx162 nb_hx162).apn hx166 nb_hx166
      have hq1 := hr55
      replace hr60 := ((((hr60.apn hx64 nb_hx64).apn hx69 nb_hx69).tr (Sm.ext he157)).apn hx162 nb_hx162).apn hx166 nb_hx166
      have hr1 := hr60
      have eq1 : zx / zy = Q0 := by first | exact (hlaw.2 hR).1 | exact (hlaw.1 hR).1 hsy | exact (hlaw.1 hR).2.1 hsy
      have er1 : modI zx zy = R0 := by rw [show modI zx zy = zx % zy from if_neg hyz]; first | exact (hlaw.2 hR).2 | exact (hlaw.1 hR).2.2
      have hlm := il_modI zx zy
      exact ⟨⟨_, _, by rw [eq1, er1, decide_eq_true hyz]; rfl, by rw [eq1]; exact hq1, by rw [eq1]; omega, by rw [er1]; exact hr1, by omega⟩, hE⟩

end Go.Proofs.Ytppgppnkhpjlpaa
